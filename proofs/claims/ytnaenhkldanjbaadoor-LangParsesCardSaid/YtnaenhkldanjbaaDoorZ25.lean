import Derived.Test.YtnaenhkldanjbaaDoorZ24
set_option linter.unusedVariables false
set_option linter.unusedSimpArgs false
section
namespace Go.Proofs.YtnaenhkldanjbaaDoor.L
open Go.Ab Go.Lang Go.Proofs.YtnaenhkldanjbaaDoor.X
set_option maxRecDepth 100000
variable {ow:Bool}
def QG (Q:RQ) (r:Res) (h:AH):Prop:=(∃ v v' h₂,r=.ret v∧Gh Tryd.prog h v h₂ v'∧Q (.ret v') h₂) ∨ Q r h
def dfn (k2:Nat):List Value:=[.func (.func 52) #[] #[.pointer (some ⟨k2,0,none⟩)]]
theorem call_pan {h h1:AH} {kp:Nat} {f:Nat × Nat} {vals:List (Option Value)} {Q:RQ} (hlt:kp < h.size) (hbox:h1.get h.size=some (.cells #[.pointer (some ⟨kp,0,none⟩)] 49 (0,0),none)) (A:Adv kp h h1) (p:PanS h1 kp)
  (hq:∀ h3,PanS h3 kp→Adv kp h h3→Q (.pan (faultV f)) h3):panD Tryd.prog res47 (QG Q) (dfn h.size) vals (faultV f) h1:=by
 obtain ⟨a,b,c,d,n,hr⟩:=p
 unfold panD dfn
 simp (disch:=(first | exact dz | fail)) only [SXB,SX,reduceIte,Int.reduceLT,Int.reduceLE,Int.reduceToNat,Int.reduceBEq,Int.reduceBNe,Nat.reduceAdd,Nat.reduceMul,Nat.reduceSub,Nat.reduceLeDiff]
 refine (call1_row hbox hr).2 _ ?_
 simp (disch:=(first | exact dz | fail)) only [SXB,SX,reduceIte,Int.reduceLT,Int.reduceLE,Int.reduceToNat,Int.reduceBEq,Int.reduceBNe,Nat.reduceAdd,Nat.reduceMul,Nat.reduceSub,Nat.reduceLeDiff]
 refine .inr (hq _ ⟨a,b,c,d,_,get_put_eq rfl⟩ ?_)
 (repeat (first | exact Adv.refl _ _ | assumption | refine Adv.push ?_ _ _ | refine Adv.put ?_ _ _ (by first | exact .inl rfl | (right;first | omega | (simp only [sz_push,sz_put];omega)))))
theorem hld_isSl {e z lo:Nat} {h:AH} {s:Value} {l:List Value} (o:Hld e z h lo s l):∃ a n c,s=.slice a n c:=by
 cases o <;> exact ⟨_,_,_,rfl⟩
theorem call_loop {h:AH} {kp q n:Nat} {e t:Tok} {ts0:List Tok} {bv:Value} {vs:List Var} {b l c ans:Nat} {rd:ExprRd} {s:Sig} {al:List UInt8} {ac:UInt8} {Q:RQ} (hk:2 ≤ kp) (HE:∀ ts,TokOK ts→ts.length ≤ n→ExprOK ow kp e bv vs b l (c + 1) rd ts) (hrd:RdOK rd) (hc:c ≤ 8)
  (S0:PSg ow h kp e ts0 bv vs b l c) (G0:Glob h) (has:s.args.data.toList=al) (hal:al.length ≤ 8) (hac:s.ans.data.toList[0]?=some ac) (hans:ac.toNat=ans) :
  ∀ (ks:List UInt8) (i:Nat) (ts1:List Tok) (h1:AH) (es:List Lang.Expr) (sv:Value),al.drop i=ks→i ≤ al.length→TokOK ts1→ts1.length ≤ n→PSg ow h1 kp e ts1 bv vs b l (c + 1)→Adv kp h h1→CL h h1 kp q s t es sv→es.length=i →
   (∀ x k ts3 h3,restF rd t ans ks (i == 0) ts1 es=.ok ((x,k),ts3)→PSg ow h3 kp e ts3 bv vs b l c→Adv kp h h3→Q (.ret (.tuple #[encE x,.int .u8 (k:Nat)])) h3) →
   (∀ f h3,restF rd t ans ks (i == 0) ts1 es=.error f→PanS h3 kp→Adv kp h h3→Q (.pan (faultV f)) h3) →
   H47_11 (.pointer (some ⟨h.size,0,none⟩)) (.pointer (some ⟨h.size + 2,0,none⟩)) (.pointer (some ⟨q,0,none⟩)) (.pointer (some ⟨q + 1,0,none⟩)) (.int .i64 al.length) (.int .i64 i) (dfn h.size) h1 (QG Q):=by
 have hlt:=S0.lt
 intro ks
 induction ks with
 | nil =>
  intro i ts1 h1 es sv hd hi ok hn S A C hes hok herr
  have:=drop_nil hd
  obtain ⟨sa,sn,sc,rfl⟩:=hld_isSl C.hld
  refine X47_11_ok ?_
  unfold X47_11
  have e1:¬ ((i:Int) < al.length):=by omega
  have gb:=C.box
  simp (disch:=(first | exact dz | fail)) only [e1,gb,SXB,SX,reduceIte,Int.reduceLT,Int.reduceLE,Int.reduceToNat,Int.reduceBEq,Int.reduceBNe,Nat.reduceAdd,Nat.reduceMul,Nat.reduceSub,Nat.reduceLeDiff]
  refine want_ok S ok.ne 4 mRp (fun ts3 h2 hw S2 a2=>?_) (fun f hw=>?_)
  ·have A2:=A.trans a2
   have C2:=C.adv a2 hlt
   have g1:=C2.box
   have g2:=C2.out
   have g3:=C2.sig
   have g4:=C2.cur
   have hs2:=C2.size
   have hqq:=C2.ge
   have e2:ixS (.string s.ans) (.int .i64 0)=some (.int .u8 ac.toNat):=ixS_at rfl hac
   have gk:=S2.row
   unfold prow at gk
   simp (disch:=(first | exact dz | fail)) only [g1,g2,g3,g4,e2,SXB,SX,reduceIte,Int.reduceLT,Int.reduceLE,Int.reduceToNat,Int.reduceBEq,Int.reduceBNe,Nat.reduceAdd,Nat.reduceMul,Nat.reduceSub,Nat.reduceLeDiff]
   have hlo:∀ k,blkOf (.slice sa sn sc)=some k→q + 2 ≤ k:=C2.hld.key
   unfold retV dfn
   simp (disch:=(first | exact dz | fail)) only [SXB,SX,reduceIte,Int.reduceLT,Int.reduceLE,Int.reduceToNat,Int.reduceBEq,Int.reduceBNe,Nat.reduceAdd,Nat.reduceMul,Nat.reduceSub,Nat.reduceLeDiff]
   refine (call1_row (kp:=kp) (k2:=h.size) (e2:=49) (s2:=none) (a:=tokV e ts3) (b:=bv) (c:=.int .i64 b) (d:=.int .i64 l) (n:=((c + 1:Nat):Int)) ?_ ?_).1 ?_
   ·rw [get_put_ne (by omega)];exact g1
   ·rw [get_put_ne (by omega)];exact gk
   have ew:IntKind.i64.wrap (((c + 1:Nat):Int) - 1)=(c:Int):=by rw [wrap64 (by omega) (by omega)];omega
   rw [ew]
   simp (disch:=(first | exact dz | fail)) only [SXB,SX,reduceIte,Int.reduceLT,Int.reduceLE,Int.reduceToNat,Int.reduceBEq,Int.reduceBNe,Nat.reduceAdd,Nat.reduceMul,Nat.reduceSub,Nat.reduceLeDiff]
   have e3:(Tryd.prog).globals.size=(Tryd.prog).globals.size:=rfl
   rw [res_call]
   have hne:h.size + 2 ≠ kp:=by omega
   simp (disch:=(first | exact dz | fail)) only [SXB,SX,reduceIte,Int.reduceLT,Int.reduceLE,Int.reduceToNat,Int.reduceBEq,Int.reduceBNe,Nat.reduceAdd,Nat.reduceMul,Nat.reduceSub,Nat.reduceLeDiff]
   -- the arguments stay al they are from here on
   have H:=C2.hld
   have H':Hld 41 5 ((h2.put (h.size + 2) (some (.cells #[.string t.text,.int .i64 t.at_,.int .i64 0,.string ⟨#[]⟩,.slice sa sn sc] 41 (0,0),none))).put kp (prow (tokV e ts3) bv b l c)) (q + 2) (.slice sa sn sc) (encEs es):=H.mono fun k hk=>by
    have:=hlo k hk
    rw [get_put_ne (by omega),get_put_ne (by omega)]
   obtain ⟨h3,gu,gf,gs⟩:=H'.turn (P:=Tryd.prog) (by omega) (encEs_size es)
   refine .inl ⟨_,.tuple #[encE (.mk t.text t.at_ 0 empty es),.int .u8 (ans:Nat)],h3,rfl,?_,?_⟩
   ·refine Gh.turn gu ?_
    rw [encE,hans]
    exact .tuple (.cons (.agg (.cons (.same _) (.cons (.same _) (.cons (.same _) (.cons (.same _) (.cons .here .nil)))))) (.cons (.same _) .nil))
   ·have gk3:∀ k,k < h.size→h3.get k=if k=kp then prow (tokV e ts3) bv b l c else h2.get k:=by
     intro k hk
     rw [gf k (fun e=>by have:=hlo k e;omega)]
     by_cases ek:k=kp
     ·rw [if_pos ek,get_put_eq ek]
     ·rw [if_neg ek,get_put_ne ek,get_put_ne (by omega)]
    have A3:Adv kp h h3:=⟨by rw [gs,sz_put,sz_put];exact A2.size,fun k h1 h2=>by rw [gk3 k h1,if_neg h2];exact A2.get k h1 h2⟩
    refine hok (.mk t.text t.at_ 0 empty es) ans ts3 h3 ?_ (S0.adv A3 ?_) A3
    ·unfold restF
     rw [argsF]
     simp only
     rw [hw]
     simp
    ·rw [gk3 kp hlt,if_pos rfl]
  ·simp (disch:=(first | exact dz | fail)) only [SXB,SX,reduceIte,Int.reduceLT,Int.reduceLE,Int.reduceToNat,Int.reduceBEq,Int.reduceBNe,Nat.reduceAdd,Nat.reduceMul,Nat.reduceSub,Nat.reduceLeDiff]
   refine call_pan hlt gb A S.pan fun h3 p a=>herr f h3 ?_ p a
   unfold restF
   rw [argsF]
   simp only
   rw [hw]
 | cons k ks ih =>
  intro i ts1 h1 es sv hd hi ok hn S A C hes hok herr
  obtain ⟨d1,d2,d3⟩:=drop_cons hd
  -- an argument,behind its comma
  have body:∀ ts2 h2,(if (i == 0) then Except.ok ts1 else Lang.want 4 mComma ts1)=.ok ts2→TokOK ts2→ts2.length ≤ n→PSg ow h2 kp e ts2 bv vs b l (c + 1)→Adv kp h1 h2 →
    K47_15 (.pointer (some ⟨h.size,0,none⟩)) (.pointer (some ⟨h.size + 2,0,none⟩)) (.pointer (some ⟨q,0,none⟩)) (.pointer (some ⟨q + 1,0,none⟩)) (.int .i64 i) (.int .i64 al.length) (.int .i64 i) (dfn h.size) h2 (QG Q):=by
   intro ts2 h2 hts ok2 hn2 S2 a2
   have A2:=A.trans a2
   have C2:=C.adv a2 hlt
   have hs2:=C2.size
   have hqq:=C2.ge
   have g1:=C2.box
   have g3:=C2.sig
   have g4:=C2.cur
   have e2:ixS (.string s.args) (.int .i64 i)=some (.int .u8 k.toNat):=ixS_at has d1
   refine X47_15_ok ?_
   unfold X47_15
   simp (disch:=(first | exact dz | fail)) only [g1,g3,g4,e2,SXB,SX,reduceIte,Int.reduceLT,Int.reduceLE,Int.reduceToNat,Int.reduceBEq,Int.reduceBNe,Nat.reduceAdd,Nat.reduceMul,Nat.reduceSub,Nat.reduceLeDiff]
   refine of_ok (HE ts2 ok2 hn2) hrd ok2 S2 (G0.adv A2 hk) k.toNat (fun x ts3 h3 hof S3 a3=>?_) (fun f h3 hof p3 a3=>?_)
   ·have A3:=A2.trans a3
    have C3:=C2.adv a3 hlt
    have hs3:=C3.size
    have w1:=C3.box
    have w2:=C3.out
    have w3:=C3.sig
    have w4:=C3.cur
    obtain ⟨sa,sn,sc,rfl⟩:=hld_isSl C3.hld
    have hlo:∀ k,blkOf (.slice sa sn sc)=some k→q + 2 ≤ k:=C3.hld.key
    have hlb:=C3.lt
    have hshr:=ofK_shr hrd ok2 hof
    cases hx:x with
    | mk op ax nx tx args =>
     rw [encE]
     simp (disch:=(first | exact dz | fail)) only [w4,SXB,SX,reduceIte,Int.reduceLT,Int.reduceLE,Int.reduceToNat,Int.reduceBEq,Int.reduceBNe,Nat.reduceAdd,Nat.reduceMul,Nat.reduceSub,Nat.reduceLeDiff]
     obtain ⟨s',h4,q1,q2,q3,q4,q5⟩:=C3.hld.append1 (v:=encE x) (c:=#[.string op,.int .i64 ax,.int .i64 nx,.string tx,slV (encEs args)]) (bytes:=72) (zero:=.agg #[.string ⟨#[]⟩,.int .i64 0,.int .i64 0,.string ⟨#[]⟩,.slice none 0 0])
      (by rw [hx,encE];rfl) hlb (by omega) (encEs_size es) rfl (fun y hy=>by
       simp at hy
       rcases hy with rfl | rfl | rfl | rfl | rfl
       ·rfl
       ·rfl
       ·rfl
       ·rfl
       ·exact one_slV _) (by omega) (by omega) (by omega) rfl (by rw [encEs_eq,List.length_map];omega)
     refine bq_of q1 ?_
     obtain ⟨sb,sm,sd,rfl⟩:=hld_isSl q2
     have v4:h4.get (q + 1)=some (.cells #[.string t.text,.int .i64 t.at_,.int .i64 0,.string ⟨#[]⟩,.slice sa sn sc] 41 (0,0),none):=(q4 _ (by omega) (fun e=>by have:=hlo _ e;omega)).trans w4
     simp (disch:=(first | exact dz | fail)) only [v4,SXB,SX,reduceIte,Int.reduceLT,Int.reduceLE,Int.reduceToNat,Int.reduceBEq,Int.reduceBNe,Nat.reduceAdd,Nat.reduceMul,Nat.reduceSub,Nat.reduceLeDiff]
     have gg:∀ k,k < q + 2→k ≠ q + 1→(h4.put (q + 1) (some (.cells #[.string t.text,.int .i64 t.at_,.int .i64 0,.string ⟨#[]⟩,.slice sb sm sd] 41 (0,0),none))).get k=h3.get k:=fun k h1 h2=>by
      rw [get_put_ne h2]
      exact q4 k (by omega) fun e=>by have:=hlo k e;omega
     have A4:Adv kp h (h4.put (q + 1) (some (.cells #[.string t.text,.int .i64 t.at_,.int .i64 0,.string ⟨#[]⟩,.slice sb sm sd] 41 (0,0),none))):=⟨by rw [sz_put];exact Nat.le_trans A3.size q3,fun k h1 h2=>(gg k (by omega) (by omega)).trans (A3.get k h1 h2)⟩
     have:=ih (i + 1) ts3 _ (es++[x]) (.slice sb sm sd) d2 (by omega) hshr.1 (Nat.le_of_lt (Nat.lt_of_lt_of_le hshr.2 hn2)) (S0.adv A4 ((gg kp (by omega) (by omega)).trans S3.row)) A4 ⟨(gg _ (by omega) (by omega)).trans w1,(gg _ (by omega) (by omega)).trans w2,(gg _ (by omega) (by omega)).trans w3,get_put_eq rfl,?_,?_,?_,?_⟩ (by simp [hes]) ?_ ?_
     ·exact this
     ·rw [encEs_snoc]
      exact q2.mono fun k hk=>get_put_ne fun e=>by have:=q2.key k hk;omega
     ·intro k hk
      rw [sz_put]
      rcases q5 with e1 | ⟨k',e1,_,e2⟩
      ·rw [e1] at hk;exact Nat.lt_of_lt_of_le (hlb k hk) q3
      ·rw [e1] at hk;cases hk;exact e2
     ·rw [sz_put];omega
     ·exact hqq
     ·intro x' k' ts4 h5 hr' S5 a5
      refine hok x' k' ts4 h5 ?_ S5 a5
      rw [restF_cons,hts]
      simp only
      rw [hof]
      exact hr'
     ·intro f h5 hr' S5 a5
      refine herr f h5 ?_ S5 a5
      rw [restF_cons,hts]
      simp only
      rw [hof]
      exact hr'
   ·simp (disch:=(first | exact dz | fail)) only [SXB,SX,reduceIte,Int.reduceLT,Int.reduceLE,Int.reduceToNat,Int.reduceBEq,Int.reduceBNe,Nat.reduceAdd,Nat.reduceMul,Nat.reduceSub,Nat.reduceLeDiff]
    have C3:=C2.adv a3 hlt
    refine call_pan hlt C3.box (A2.trans a3) p3 fun h4 p a=>herr f h4 ?_ p a
    rw [restF_cons,hts]
    simp only
    rw [hof]
  refine X47_11_ok ?_
  unfold X47_11
  have e1:(i:Int) < al.length:=by omega
  have gb:=C.box
  by_cases hi0:i=0
  ·have e2:¬ (0 < (i:Int)):=by omega
   simp (disch:=(first | exact dz | fail)) only [e1,e2,SXB,SX,reduceIte,Int.reduceLT,Int.reduceLE,Int.reduceToNat,Int.reduceBEq,Int.reduceBNe,Nat.reduceAdd,Nat.reduceMul,Nat.reduceSub,Nat.reduceLeDiff]
   exact body ts1 h1 (by rw [hi0];rfl) ok hn S (.refl _ _)
  ·have e2:0 < (i:Int):=by omega
   have hib:(i == 0)=false:=by simpa using hi0
   simp (disch:=(first | exact dz | fail)) only [e1,e2,gb,SXB,SX,reduceIte,Int.reduceLT,Int.reduceLE,Int.reduceToNat,Int.reduceBEq,Int.reduceBNe,Nat.reduceAdd,Nat.reduceMul,Nat.reduceSub,Nat.reduceLeDiff]
   refine want_ok S ok.ne 4 mComma (fun ts2 h2 hw S2 a2=>?_) (fun f hw=>?_)
   ·have hsh:=want_shr hw (by omega) ok
    simp (disch:=(first | exact dz | fail)) only [SXB,SX,reduceIte,Int.reduceLT,Int.reduceLE,Int.reduceToNat,Int.reduceBEq,Int.reduceBNe,Nat.reduceAdd,Nat.reduceMul,Nat.reduceSub,Nat.reduceLeDiff]
    exact body ts2 h2 (by rw [hib];exact hw) hsh.1 (Nat.le_of_lt (Nat.lt_of_lt_of_le hsh.2 hn)) S2 a2
   ·simp (disch:=(first | exact dz | fail)) only [SXB,SX,reduceIte,Int.reduceLT,Int.reduceLE,Int.reduceToNat,Int.reduceBEq,Int.reduceBNe,Nat.reduceAdd,Nat.reduceMul,Nat.reduceSub,Nat.reduceLeDiff]
    refine call_pan hlt gb A S.pan fun h3 p a=>herr f h3 ?_ p a
    rw [restF_cons,hib]
    simp only [Bool.false_eq_true,if_false,hw]
end Go.Proofs.YtnaenhkldanjbaaDoor.L
end
section
namespace Go.Proofs.YtnaenhkldanjbaaDoor.L
open Go.Ab Go.Lang Go.Proofs.YtnaenhkldanjbaaDoor.X
set_option maxRecDepth 100000
variable {ow:Bool}
theorem sigs_small:∀ s ∈ sigs,s.args.data.toList.length ≤ 3∧∃ c,s.ans.data.toList[0]?=some c:=by
 have:sigs.all (fun s=>decide (s.args.data.toList.length ≤ 3) && (s.ans.data.toList[0]?).isSome)=true:=by kernel_rfl
 intro s hs
 have:=List.all_eq_true.1 this s hs
 simp only [Bool.and_eq_true,decide_eq_true_eq] at this
 exact ⟨this.1,Option.isSome_iff_exists.1 this.2⟩
theorem ans_eq {s:Sig} {c:UInt8} (h:s.ans.data.toList[0]?=some c):(s.ans[0]!).toNat=c.toNat:=by rw [get_bang rfl h]
theorem findS_mem {f:ByteArray} {s:Sig} (h:findS f sigs=some s):s ∈ sigs:=List.mem_of_find?_eq_some h
theorem call_ok {h:AH} {kp n:Nat} {e t:Tok} {ts:List Tok} {bv:Value} {vs:List Var} {b l c:Nat} {rd:ExprRd} {Q:RQ} (hk:2 ≤ kp) (HE:c < 8→∀ ts,TokOK ts→ts.length ≤ n→ExprOK ow kp e bv vs b l (c + 1) rd ts) (hrd:RdOK rd) (hc:c ≤ 8)
  (S:PSg ow h kp e ts bv vs b l c) (G:Glob h) (ok:TokOK ts) (hlp:isT ts 4 mLp=true) (hn:ts.length ≤ n + 1)
  (hok:∀ x k ts3 h3,callF rd c t ts=.ok ((x,k),ts3)→PSg ow h3 kp e ts3 bv vs b l c→Adv kp h h3→Q (.ret (.tuple #[encE x,.int .u8 (k:Nat)])) h3)
  (herr:∀ f h3,callF rd c t ts=.error f→PanS h3 kp→Adv kp h h3→Q (.pan (faultV f)) h3) :
  HC Tryd.prog 47 [.pointer (some ⟨kp,0,none⟩),encT t].toArray h Q:=by
 refine HC.ghOr (X47_ok (Q:=QG Q) ?_)
 unfold X47
 have hlt:=S.lt
 have gk:=S.row
 unfold prow at gk
 obtain ⟨u,r,hts⟩:∃ u r,ts=u::r:=by cases ts with
  | nil=>exact absurd rfl ok.ne
  | cons u r=>exact ⟨u,r,rfl⟩
 simp (disch:=(first | exact dz | fail)) only [encT,gk,SXB,SX,reduceIte,Int.reduceLT,Int.reduceLE,Int.reduceToNat,Int.reduceBEq,Int.reduceBNe,Nat.reduceAdd,Nat.reduceMul,Nat.reduceSub,Nat.reduceLeDiff]
 by_cases h8:8 ≤ c
 ·have e1:(8:Int) ≤ (c:Int):=by omega
  have hcf:callF rd c t ts=.error (164,headAt ts):=by unfold callF;rw [if_pos h8]
  simp (disch:=(first | exact dz | fail)) only [e1,SXB,SX,reduceIte,Int.reduceLT,Int.reduceLE,Int.reduceToNat,Int.reduceBEq,Int.reduceBNe,Nat.reduceAdd,Nat.reduceMul,Nat.reduceSub,Nat.reduceLeDiff]
  refine HC.exact (peek_ok (ow:=ow) (t:=u) (r:=r) (bv:=bv) (vs:=vs) (b:=b) (l:=l) (c:=c) (e:=e) ?_) ?_
  ·rw [← hts]
   exact S.same (by (repeat (first | exact Kp.refl _ _ | assumption | refine Kp.push ?_ _ _ (by first | omega | (simp only [sz_push,sz_put];omega)) | refine Kp.put ?_ _ _ (by first | omega | (simp only [sz_push,sz_put];omega)))))
  simp (disch:=(first | exact dz | fail)) only [encT,SXB,SX,reduceIte,Int.reduceLT,Int.reduceLE,Int.reduceToNat,Int.reduceBEq,Int.reduceBNe,Nat.reduceAdd,Nat.reduceMul,Nat.reduceSub,Nat.reduceLeDiff]
  refine fail_ok (k:=164) ?_
  simp (disch:=(first | exact dz | fail)) only [panD,SXB,SX,reduceIte,Int.reduceLT,Int.reduceLE,Int.reduceToNat,Int.reduceBEq,Int.reduceBNe,Nat.reduceAdd,Nat.reduceMul,Nat.reduceSub,Nat.reduceLeDiff]
  refine .inr ?_
  have:=herr _ ((((h.push (.cells #[.pointer (some ⟨kp,0,none⟩)] 49 (0,0)) none).push (.cells #[.int .i64 t.cls,.int .i64 t.at_,.string t.text] 52 (0,0)) none).push (.cells #[.string ⟨#[]⟩,.int .i64 0,.int .i64 0,.string ⟨#[]⟩,.slice none 0 0] 41 (0,0)) none)) hcf ((S.same (by (repeat (first | exact Kp.refl _ _ | assumption | refine Kp.push ?_ _ _ (by first | omega | (simp only [sz_push,sz_put];omega)) | refine Kp.put ?_ _ _ (by first | omega | (simp only [sz_push,sz_put];omega)))))).pan) (.of_kp (by (repeat (first | exact Kp.refl _ _ | assumption | refine Kp.push ?_ _ _ (by first | omega | (simp only [sz_push,sz_put];omega)) | refine Kp.put ?_ _ _ (by first | omega | (simp only [sz_push,sz_put];omega))))))
  rw [hts] at this
  exact this
 ·have e1:¬ ((8:Int) ≤ (c:Int)):=by omega
  have hcf:callF rd c t ts=match findS t.text sigs with
   | none=>.error (162,t.at_)
   | some s=>restF rd t (s.ans[0]!).toNat s.args.data.toList true ts.tail []:=by
   unfold callF restF
   rw [if_neg h8]
   cases findS t.text sigs with
   | none=>rfl
   | some s=>rfl
  simp (disch:=(first | exact dz | fail)) only [e1,SXB,SX,reduceIte,Int.reduceLT,Int.reduceLE,Int.reduceToNat,Int.reduceBEq,Int.reduceBNe,Nat.reduceAdd,Nat.reduceMul,Nat.reduceSub,Nat.reduceLeDiff]
  refine X47_3_ok ?_
  unfold X47_3
  have ec:IntKind.i64.wrap ((c:Int) + 1)=((c + 1:Nat):Int):=by rw [wrap64 (by omega) (by omega)];omega
  simp (disch:=(first | exact dz | fail)) only [gk,ec,SXB,SX,reduceIte,Int.reduceLT,Int.reduceLE,Int.reduceToNat,Int.reduceBEq,Int.reduceBNe,Nat.reduceAdd,Nat.reduceMul,Nat.reduceSub,Nat.reduceLeDiff]
  have S1:PSg ow ((((h.push (.cells #[.pointer (some ⟨kp,0,none⟩)] 49 (0,0)) none).push (.cells #[.int .i64 t.cls,.int .i64 t.at_,.string t.text] 52 (0,0)) none).push (.cells #[.string ⟨#[]⟩,.int .i64 0,.int .i64 0,.string ⟨#[]⟩,.slice none 0 0] 41 (0,0)) none).put kp (prow (tokV e ts) bv b l (c + 1))) kp e ts bv vs b l (c + 1) :=
   S.adv (by (repeat (first | exact Adv.refl _ _ | assumption | refine Adv.push ?_ _ _ | refine Adv.put ?_ _ _ (by first | exact .inl rfl | (right;first | omega | (simp only [sz_push,sz_put];omega)))))) (get_put_eq rfl)
  refine want_ok S1 ok.ne 4 mLp (fun ts1 h2 hw S2 a2=>?_) (fun f hw=>?_)
  ·have htl:ts1=ts.tail:=by unfold Lang.want at hw;rw [if_pos hlp] at hw;cases hw;rfl
   have hsh:=want_shr hw (by omega) ok
   have hasz:=a2.size
   simp only [sz_push,sz_put] at hasz
   have A2:Adv kp h h2:=Adv.trans (by (repeat (first | exact Adv.refl _ _ | assumption | refine Adv.push ?_ _ _ | refine Adv.put ?_ _ _ (by first | exact .inl rfl | (right;first | omega | (simp only [sz_push,sz_put];omega)))))) a2
   have w1:h2.get h.size=some (.cells #[.pointer (some ⟨kp,0,none⟩)] 49 (0,0),none):=by
    rw [a2.get _ (by simp only [sz_push,sz_put];omega) (by omega)]
    simp (disch:=(first | exact dz | fail)) only [SXB,SX,reduceIte,Int.reduceLT,Int.reduceLE,Int.reduceToNat,Int.reduceBEq,Int.reduceBNe,Nat.reduceAdd,Nat.reduceMul,Nat.reduceSub,Nat.reduceLeDiff]
   have w2:h2.get (h.size + 1)=some (.cells #[.int .i64 t.cls,.int .i64 t.at_,.string t.text] 52 (0,0),none):=by
    rw [a2.get _ (by simp only [sz_push,sz_put];omega) (by omega)]
    simp (disch:=(first | exact dz | fail)) only [SXB,SX,reduceIte,Int.reduceLT,Int.reduceLE,Int.reduceToNat,Int.reduceBEq,Int.reduceBNe,Nat.reduceAdd,Nat.reduceMul,Nat.reduceSub,Nat.reduceLeDiff]
   have w3:h2.get (h.size + 2)=some (.cells #[.string ⟨#[]⟩,.int .i64 0,.int .i64 0,.string ⟨#[]⟩,.slice none 0 0] 41 (0,0),none):=by
    rw [a2.get _ (by simp only [sz_push,sz_put];omega) (by omega)]
    simp (disch:=(first | exact dz | fail)) only [SXB,SX,reduceIte,Int.reduceLT,Int.reduceLE,Int.reduceToNat,Int.reduceBEq,Int.reduceBNe,Nat.reduceAdd,Nat.reduceMul,Nat.reduceSub,Nat.reduceLeDiff]
   simp (disch:=(first | exact dz | fail)) only [w2,SXB,SX,reduceIte,Int.reduceLT,Int.reduceLE,Int.reduceToNat,Int.reduceBEq,Int.reduceBNe,Nat.reduceAdd,Nat.reduceMul,Nat.reduceSub,Nat.reduceLeDiff]
   refine HC.exact (find_ok (G.adv A2 hk) t.text) ?_
   cases hf:findS t.text sigs with
   | none =>
    rw [hf] at hcf
    simp (disch:=(first | exact dz | fail)) only [fres,sigV,w1,w2,SXB,SX,reduceIte,Int.reduceLT,Int.reduceLE,Int.reduceToNat,Int.reduceBEq,Int.reduceBNe,Nat.reduceAdd,Nat.reduceMul,Nat.reduceSub,Nat.reduceLeDiff]
    refine fail_ok (k:=162) ?_
    simp (disch:=(first | exact dz | fail)) only [SXB,SX,reduceIte,Int.reduceLT,Int.reduceLE,Int.reduceToNat,Int.reduceBEq,Int.reduceBNe,Nat.reduceAdd,Nat.reduceMul,Nat.reduceSub,Nat.reduceLeDiff]
    refine call_pan (f:=(162,t.at_)) hlt ?_ ?_ ((S2.same ?_).pan) fun h3 p a=>herr _ h3 hcf p a
    ·simp (disch:=(first | exact dz | fail)) only [SXB,SX,reduceIte,Int.reduceLT,Int.reduceLE,Int.reduceToNat,Int.reduceBEq,Int.reduceBNe,Nat.reduceAdd,Nat.reduceMul,Nat.reduceSub,Nat.reduceLeDiff]
     exact w1
    ·(repeat (first | exact Adv.refl _ _ | assumption | refine Adv.push ?_ _ _ | refine Adv.put ?_ _ _ (by first | exact .inl rfl | (right;first | omega | (simp only [sz_push,sz_put];omega)))))
    ·(repeat (first | exact Kp.refl _ _ | assumption | refine Kp.push ?_ _ _ (by first | omega | (simp only [sz_push,sz_put];omega)) | refine Kp.put ?_ _ _ (by first | omega | (simp only [sz_push,sz_put];omega))))
   | some s =>
    rw [hf] at hcf
    simp only at hcf
    obtain ⟨hs1,ac,hs2⟩:=sigs_small s (findS_mem hf)
    have hsz:=size_list (s:=s.args) rfl
    simp (disch:=(first | exact dz | fail)) only [fres,sigV,w1,w2,SXB,SX,reduceIte,Int.reduceLT,Int.reduceLE,Int.reduceToNat,Int.reduceBEq,Int.reduceBNe,Nat.reduceAdd,Nat.reduceMul,Nat.reduceSub,Nat.reduceLeDiff]
    refine X47_9_ok ?_
    unfold X47_9
    simp (disch:=(first | exact dz | fail)) only [w2,SXB,SX,reduceIte,Int.reduceLT,Int.reduceLE,Int.reduceToNat,Int.reduceBEq,Int.reduceBNe,Nat.reduceAdd,Nat.reduceMul,Nat.reduceSub,Nat.reduceLeDiff]
    have:=call_loop (h:=h) (kp:=kp) (q:=h2.size) (n:=n) (e:=e) (t:=t) (ts0:=ts) (bv:=bv) (vs:=vs) (b:=b) (l:=l) (c:=c) (ans:=(s.ans[0]!).toNat) (rd:=rd) (s:=s) (al:=s.args.data.toList) (ac:=ac) (Q:=Q) hk (HE (by omega)) hrd hc S G rfl (by omega) hs2 (ans_eq hs2).symm
     s.args.data.toList 0 ts.tail ((((h2.push (.cells #[.string ⟨#[]⟩,.string ⟨#[]⟩,.string ⟨#[]⟩] 113 (0,0)) none).put h2.size (some (.cells #[.string s.name,.string s.args,.string s.ans] 113 (0,0),none))).push (.cells #[.string ⟨#[]⟩,.int .i64 0,.int .i64 0,.string ⟨#[]⟩,.slice none 0 0] 41 (0,0)) none).put (h2.size + 1) (some (.cells #[.string t.text,.int .i64 t.at_,.int .i64 0,.string ⟨#[]⟩,.slice none 0 0] 41 (0,0),none))) [] (.slice none 0 0) rfl (by omega) (htl ▸ hsh.1) (by have:=hsh.2;rw [htl] at this;omega) (htl ▸ S2.same (by (repeat (first | exact Kp.refl _ _ | assumption | refine Kp.push ?_ _ _ (by first | omega | (simp only [sz_push,sz_put];omega)) | refine Kp.put ?_ _ _ (by first | omega | (simp only [sz_push,sz_put];omega)))))) (by (repeat (first | exact Adv.refl _ _ | assumption | refine Adv.push ?_ _ _ | refine Adv.put ?_ _ _ (by first | exact .inl rfl | (right;first | omega | (simp only [sz_push,sz_put];omega))))))
     ⟨?_,?_,?_,?_,.nil,fun k hk=>(nomatch hk),?_,by omega⟩ rfl (fun x k ts3 h3 hr=>hok x k ts3 h3 (hcf.trans hr)) (fun f h3 hr=>herr f h3 (hcf.trans hr))
    ·rw [← hsz] at this
     exact this
    ·simp (disch:=(first | exact dz | fail)) only [SXB,SX,reduceIte,Int.reduceLT,Int.reduceLE,Int.reduceToNat,Int.reduceBEq,Int.reduceBNe,Nat.reduceAdd,Nat.reduceMul,Nat.reduceSub,Nat.reduceLeDiff]
     exact w1
    ·simp (disch:=(first | exact dz | fail)) only [SXB,SX,reduceIte,Int.reduceLT,Int.reduceLE,Int.reduceToNat,Int.reduceBEq,Int.reduceBNe,Nat.reduceAdd,Nat.reduceMul,Nat.reduceSub,Nat.reduceLeDiff]
     exact w3
    ·simp (disch:=(first | exact dz | fail)) only [SXB,SX,reduceIte,Int.reduceLT,Int.reduceLE,Int.reduceToNat,Int.reduceBEq,Int.reduceBNe,Nat.reduceAdd,Nat.reduceMul,Nat.reduceSub,Nat.reduceLeDiff]
    ·simp (disch:=(first | exact dz | fail)) only [SXB,SX,reduceIte,Int.reduceLT,Int.reduceLE,Int.reduceToNat,Int.reduceBEq,Int.reduceBNe,Nat.reduceAdd,Nat.reduceMul,Nat.reduceSub,Nat.reduceLeDiff]
    ·simp (disch:=(first | exact dz | fail)) only [SXB,SX,reduceIte,Int.reduceLT,Int.reduceLE,Int.reduceToNat,Int.reduceBEq,Int.reduceBNe,Nat.reduceAdd,Nat.reduceMul,Nat.reduceSub,Nat.reduceLeDiff]
  ·unfold Lang.want at hw
   rw [if_pos hlp] at hw
   cases hw
theorem expr_ok:∀ (n:Nat) {kp:Nat} {e:Tok} {bv:Value} {vs:List Var} {b l c:Nat} {ts:List Tok},2 ≤ kp→c ≤ 8→VsOK vs→vs.length ≤ 1048576→TokOK ts→ts.length ≤ n→ExprOK ow kp e bv vs b l c (exprF n c vs) ts:=by
 intro n
 induction n with
 | zero=>intro kp e bv vs b l c ts _ _ _ _ ok hn;have:=ok.pos;omega
 | succ n ih =>
  intro kp e bv vs b l c ts hk hc hv hvl ok hn h S G
  cases ts with
  | nil=>exact absurd rfl ok.ne
  | cons t r =>
   refine X39_ok ?_
   unfold X39
   have hlt:=S.lt
   simp (disch:=(first | exact dz | fail)) only [SXB,SX,reduceIte,Int.reduceLT,Int.reduceLE,Int.reduceToNat,Int.reduceBEq,Int.reduceBNe,Nat.reduceAdd,Nat.reduceMul,Nat.reduceSub,Nat.reduceLeDiff]
   refine HC.exact (peek_ok (ow:=ow) (t:=t) (r:=r) (bv:=bv) (vs:=vs) (b:=b) (l:=l) (c:=c) (e:=e) (S.same ?_)) ?_
   ·(repeat (first | exact Kp.refl _ _ | assumption | refine Kp.push ?_ _ _ (by first | omega | (simp only [sz_push,sz_put];omega)) | refine Kp.put ?_ _ _ (by first | omega | (simp only [sz_push,sz_put];omega))))
   simp (disch:=(first | exact dz | fail)) only [encT,SXB,SX,reduceIte,Int.reduceLT,Int.reduceLE,Int.reduceToNat,Int.reduceBEq,Int.reduceBNe,Nat.reduceAdd,Nat.reduceMul,Nat.reduceSub,Nat.reduceLeDiff]
   by_cases hc2:t.cls=2
   ·have e1:((t.cls:Int) == 2)=true:=by simp [hc2]
    have hg:=ok.good (by omega)
    have hx:exprF (n + 1) c vs (t::r)=.ok ((.mk wNumber t.at_ (num t.text) empty [],kN),r):=by simp [exprF,hc2]
    simp (disch:=(first | exact dz | fail)) only [e1,SXB,SX,reduceIte,Int.reduceLT,Int.reduceLE,Int.reduceToNat,Int.reduceBEq,Int.reduceBNe,Nat.reduceAdd,Nat.reduceMul,Nat.reduceSub,Nat.reduceLeDiff]
    refine take_ok (ow:=ow) (t:=t) (r:=r) (bv:=bv) (vs:=vs) (b:=b) (l:=l) (c:=c) (e:=e) (S.same ?_) fun h2 S2 a2=>?_
    ·(repeat (first | exact Kp.refl _ _ | assumption | refine Kp.push ?_ _ _ (by first | omega | (simp only [sz_push,sz_put];omega)) | refine Kp.put ?_ _ _ (by first | omega | (simp only [sz_push,sz_put];omega))))
    have hasz:=a2.size
    simp only [sz_push,sz_put] at hasz
    have A2:Adv kp h h2:=Adv.trans (.of_kp (by (repeat (first | exact Kp.refl _ _ | assumption | refine Kp.push ?_ _ _ (by first | omega | (simp only [sz_push,sz_put];omega)) | refine Kp.put ?_ _ _ (by first | omega | (simp only [sz_push,sz_put];omega)))))) a2
    have w1:h2.get h.size=some (.cells #[.string ⟨#[]⟩,.int .i64 0,.int .i64 0,.string ⟨#[]⟩,.slice none 0 0] 41 (0,0),none):=by
     rw [a2.get _ (by simp only [sz_push,sz_put];omega) (by omega)]
     simp (disch:=(first | exact dz | fail)) only [SXB,SX,reduceIte,Int.reduceLT,Int.reduceLE,Int.reduceToNat,Int.reduceBEq,Int.reduceBNe,Nat.reduceAdd,Nat.reduceMul,Nat.reduceSub,Nat.reduceLeDiff]
    have w2:h2.get (h.size + 1)=some (.cells #[.int .i64 t.cls,.int .i64 t.at_,.string t.text] 52 (0,0),none):=by
     rw [a2.get _ (by simp only [sz_push,sz_put];omega) (by omega)]
     simp (disch:=(first | exact dz | fail)) only [SXB,SX,reduceIte,Int.reduceLT,Int.reduceLE,Int.reduceToNat,Int.reduceBEq,Int.reduceBNe,Nat.reduceAdd,Nat.reduceMul,Nat.reduceSub,Nat.reduceLeDiff]
    simp (disch:=(first | exact dz | fail)) only [w2,SXB,SX,reduceIte,Int.reduceLT,Int.reduceLE,Int.reduceToNat,Int.reduceBEq,Int.reduceBNe,Nat.reduceAdd,Nat.reduceMul,Nat.reduceSub,Nat.reduceLeDiff]
    refine HC.exact (atoi_ok (hg.num hc2)) ?_
    simp (disch:=(first | exact dz | fail)) only [w1,w2,SXB,SX,reduceIte,Int.reduceLT,Int.reduceLE,Int.reduceToNat,Int.reduceBEq,Int.reduceBNe,Nat.reduceAdd,Nat.reduceMul,Nat.reduceSub,Nat.reduceLeDiff]
    rw [hx]
    refine ⟨?_,S.adv (by (repeat (first | exact Adv.refl _ _ | assumption | refine Adv.push ?_ _ _ | refine Adv.put ?_ _ _ (by first | exact .inl rfl | (right;first | omega | (simp only [sz_push,sz_put];omega)))))) ?_,by (repeat (first | exact Adv.refl _ _ | assumption | refine Adv.push ?_ _ _ | refine Adv.put ?_ _ _ (by first | exact .inl rfl | (right;first | omega | (simp only [sz_push,sz_put];omega)))))⟩
    ·rw [encE,encEs];rfl
    ·rw [get_put_ne (by omega)];exact S2.row
   by_cases h3:t.cls=3
   ·have e1:((t.cls:Int) == 2)=false:=by simp [h3]
    have e2:((t.cls:Int) == 3)=true:=by simp [h3]
    have hx:exprF (n + 1) c vs (t::r)=.ok ((.mk wString t.at_ 0 t.text [],kT),r):=by simp [exprF,h3]
    simp (disch:=(first | exact dz | fail)) only [e1,e2,SXB,SX,reduceIte,Int.reduceLT,Int.reduceLE,Int.reduceToNat,Int.reduceBEq,Int.reduceBNe,Nat.reduceAdd,Nat.reduceMul,Nat.reduceSub,Nat.reduceLeDiff]
    refine take_ok (ow:=ow) (t:=t) (r:=r) (bv:=bv) (vs:=vs) (b:=b) (l:=l) (c:=c) (e:=e) (S.same ?_) fun h2 S2 a2=>?_
    ·(repeat (first | exact Kp.refl _ _ | assumption | refine Kp.push ?_ _ _ (by first | omega | (simp only [sz_push,sz_put];omega)) | refine Kp.put ?_ _ _ (by first | omega | (simp only [sz_push,sz_put];omega))))
    have hasz:=a2.size
    simp only [sz_push,sz_put] at hasz
    have A2:Adv kp h h2:=Adv.trans (.of_kp (by (repeat (first | exact Kp.refl _ _ | assumption | refine Kp.push ?_ _ _ (by first | omega | (simp only [sz_push,sz_put];omega)) | refine Kp.put ?_ _ _ (by first | omega | (simp only [sz_push,sz_put];omega)))))) a2
    have w1:h2.get h.size=some (.cells #[.string ⟨#[]⟩,.int .i64 0,.int .i64 0,.string ⟨#[]⟩,.slice none 0 0] 41 (0,0),none):=by
     rw [a2.get _ (by simp only [sz_push,sz_put];omega) (by omega)]
     simp (disch:=(first | exact dz | fail)) only [SXB,SX,reduceIte,Int.reduceLT,Int.reduceLE,Int.reduceToNat,Int.reduceBEq,Int.reduceBNe,Nat.reduceAdd,Nat.reduceMul,Nat.reduceSub,Nat.reduceLeDiff]
    have w2:h2.get (h.size + 1)=some (.cells #[.int .i64 t.cls,.int .i64 t.at_,.string t.text] 52 (0,0),none):=by
     rw [a2.get _ (by simp only [sz_push,sz_put];omega) (by omega)]
     simp (disch:=(first | exact dz | fail)) only [SXB,SX,reduceIte,Int.reduceLT,Int.reduceLE,Int.reduceToNat,Int.reduceBEq,Int.reduceBNe,Nat.reduceAdd,Nat.reduceMul,Nat.reduceSub,Nat.reduceLeDiff]
    simp (disch:=(first | exact dz | fail)) only [w1,w2,SXB,SX,reduceIte,Int.reduceLT,Int.reduceLE,Int.reduceToNat,Int.reduceBEq,Int.reduceBNe,Nat.reduceAdd,Nat.reduceMul,Nat.reduceSub,Nat.reduceLeDiff]
    rw [hx]
    refine ⟨?_,S.adv (by (repeat (first | exact Adv.refl _ _ | assumption | refine Adv.push ?_ _ _ | refine Adv.put ?_ _ _ (by first | exact .inl rfl | (right;first | omega | (simp only [sz_push,sz_put];omega)))))) ?_,by (repeat (first | exact Adv.refl _ _ | assumption | refine Adv.push ?_ _ _ | refine Adv.put ?_ _ _ (by first | exact .inl rfl | (right;first | omega | (simp only [sz_push,sz_put];omega)))))⟩
    ·rw [encE,encEs];rfl
    ·rw [get_put_ne (by omega)];exact S2.row
   have e1:((t.cls:Int) == 2)=false:=by simp;omega
   have e2:((t.cls:Int) == 3)=false:=by simp;omega
   have hx:exprF (n + 1) c vs (t::r)=match fresh (t::r) with
     | .error f=>.error f
     | .ok (t,r)=>if isT r 4 mLp then callF (exprF n (c + 1) vs) c t r else match Lang.kindOf vs t.text with
      | some k=>.ok ((.mk wVar t.at_ 0 t.text [],k),r)
      | none=>.error (162,t.at_):=by
    have f2:(t.cls == 2)=false:=by simpa using hc2
    have f3:(t.cls == 3)=false:=by simpa using h3
    simp only [exprF,f2,f3,Bool.false_eq_true,if_false]
    rfl
   simp (disch:=(first | exact dz | fail)) only [e1,e2,SXB,SX,reduceIte,Int.reduceLT,Int.reduceLE,Int.reduceToNat,Int.reduceBEq,Int.reduceBNe,Nat.reduceAdd,Nat.reduceMul,Nat.reduceSub,Nat.reduceLeDiff]
   refine fresh_ok (ow:=ow) (t:=t) (r:=r) (bv:=bv) (vs:=vs) (b:=b) (l:=l) (c:=c) (e:=e) (S.same ?_) hk (G.kp ?_) (fun h1=>⟨(ok.good (by omega)).name h1,(ok.good (by omega)).size⟩) (fun h2 hf S2 a2=>?_) (fun f h2 hf p2 a2=>?_)
   ·(repeat (first | exact Kp.refl _ _ | assumption | refine Kp.push ?_ _ _ (by first | omega | (simp only [sz_push,sz_put];omega)) | refine Kp.put ?_ _ _ (by first | omega | (simp only [sz_push,sz_put];omega))))
   ·(repeat (first | exact Kp.refl _ _ | assumption | refine Kp.push ?_ _ _ (by first | omega | (simp only [sz_push,sz_put];omega)) | refine Kp.put ?_ _ _ (by first | omega | (simp only [sz_push,sz_put];omega))))
   ·have hasz:=a2.size
    simp only [sz_push,sz_put] at hasz
    have A2:Adv kp h h2:=Adv.trans (.of_kp (by (repeat (first | exact Kp.refl _ _ | assumption | refine Kp.push ?_ _ _ (by first | omega | (simp only [sz_push,sz_put];omega)) | refine Kp.put ?_ _ _ (by first | omega | (simp only [sz_push,sz_put];omega)))))) a2
    have w1:h2.get h.size=some (.cells #[.string ⟨#[]⟩,.int .i64 0,.int .i64 0,.string ⟨#[]⟩,.slice none 0 0] 41 (0,0),none):=by
     rw [a2.get _ (by simp only [sz_push,sz_put];omega) (by omega)]
     simp (disch:=(first | exact dz | fail)) only [SXB,SX,reduceIte,Int.reduceLT,Int.reduceLE,Int.reduceToNat,Int.reduceBEq,Int.reduceBNe,Nat.reduceAdd,Nat.reduceMul,Nat.reduceSub,Nat.reduceLeDiff]
    have w2:h2.get (h.size + 1)=some (.cells #[.int .i64 t.cls,.int .i64 t.at_,.string t.text] 52 (0,0),none):=by
     rw [a2.get _ (by simp only [sz_push,sz_put];omega) (by omega)]
     simp (disch:=(first | exact dz | fail)) only [SXB,SX,reduceIte,Int.reduceLT,Int.reduceLE,Int.reduceToNat,Int.reduceBEq,Int.reduceBNe,Nat.reduceAdd,Nat.reduceMul,Nat.reduceSub,Nat.reduceLeDiff]
    obtain ⟨_,hc1,_,hsh⟩:=fresh_shr hf ok
    rw [hf] at hx
    simp only at hx
    simp (disch:=(first | exact dz | fail)) only [SXB,SX,reduceIte,Int.reduceLT,Int.reduceLE,Int.reduceToNat,Int.reduceBEq,Int.reduceBNe,Nat.reduceAdd,Nat.reduceMul,Nat.reduceSub,Nat.reduceLeDiff]
    refine HC.exact (is_ok S2 hsh.1.ne 4 mLp) ?_
    cases hlp:isT r 4 mLp with
    | true =>
     rw [hlp] at hx
     simp only [if_true] at hx
     simp (disch:=(first | exact dz | fail)) only [w2,SXB,SX,reduceIte,Int.reduceLT,Int.reduceLE,Int.reduceToNat,Int.reduceBEq,Int.reduceBNe,Nat.reduceAdd,Nat.reduceMul,Nat.reduceSub,Nat.reduceLeDiff]
     have hlen:=hsh.2
     refine call_ok (t:=t) hk (fun hc8 ts' ok' hn'=>ih hk (by omega) hv hvl ok' hn') (exprF_ok n (c + 1) hv) hc S2 (G.adv A2 hk) hsh.1 hlp (n:=n) (by simp at hn;omega) (fun x k ts3 h3 hr S3 a3=>?_) (fun f h3 hr p3 a3=>?_)
     ·have hasz3:=a3.size
      have A3:=A2.trans a3
      have v1:h3.get h.size=some (.cells #[.string ⟨#[]⟩,.int .i64 0,.int .i64 0,.string ⟨#[]⟩,.slice none 0 0] 41 (0,0),none):=(a3.get _ (by omega) (by omega)).trans w1
      cases x with
      | mk op ax nx tx args =>
       rw [encE]
       simp (disch:=(first | exact dz | fail)) only [v1,SXB,SX,reduceIte,Int.reduceLT,Int.reduceLE,Int.reduceToNat,Int.reduceBEq,Int.reduceBNe,Nat.reduceAdd,Nat.reduceMul,Nat.reduceSub,Nat.reduceLeDiff]
       rw [hx,hr]
       refine ⟨?_,S.adv (by (repeat (first | exact Adv.refl _ _ | assumption | refine Adv.push ?_ _ _ | refine Adv.put ?_ _ _ (by first | exact .inl rfl | (right;first | omega | (simp only [sz_push,sz_put];omega)))))) ?_,by (repeat (first | exact Adv.refl _ _ | assumption | refine Adv.push ?_ _ _ | refine Adv.put ?_ _ _ (by first | exact .inl rfl | (right;first | omega | (simp only [sz_push,sz_put];omega)))))⟩
       ·rw [encE]
       ·rw [get_put_ne (by omega)];exact S3.row
     ·simp (disch:=(first | exact dz | fail)) only [SXB,SX,reduceIte,Int.reduceLT,Int.reduceLE,Int.reduceToNat,Int.reduceBEq,Int.reduceBNe,Nat.reduceAdd,Nat.reduceMul,Nat.reduceSub,Nat.reduceLeDiff]
      rw [hx,hr]
      exact ⟨rfl,p3,A2.trans a3⟩
    | false =>
     rw [hlp] at hx
     simp only [Bool.false_eq_true,if_false] at hx
     simp (disch:=(first | exact dz | fail)) only [w2,SXB,SX,reduceIte,Int.reduceLT,Int.reduceLE,Int.reduceToNat,Int.reduceBEq,Int.reduceBNe,Nat.reduceAdd,Nat.reduceMul,Nat.reduceSub,Nat.reduceLeDiff]
     refine HC.exact (kindOf_ok S2 hvl t.text) ?_
     simp (disch:=(first | exact dz | fail)) only [kres,SXB,SX,reduceIte,Int.reduceLT,Int.reduceLE,Int.reduceToNat,Int.reduceBEq,Int.reduceBNe,Nat.reduceAdd,Nat.reduceMul,Nat.reduceSub,Nat.reduceLeDiff]
     cases hv2:Lang.kindOf vs t.text with
     | none =>
      rw [hv2] at hx
      simp (disch:=(first | exact dz | fail)) only [Option.isSome_none,w2,SXB,SX,reduceIte,Int.reduceLT,Int.reduceLE,Int.reduceToNat,Int.reduceBEq,Int.reduceBNe,Nat.reduceAdd,Nat.reduceMul,Nat.reduceSub,Nat.reduceLeDiff]
      refine fail_ok (k:=162) ?_
      simp (disch:=(first | exact dz | fail)) only [SXB,SX,reduceIte,Int.reduceLT,Int.reduceLE,Int.reduceToNat,Int.reduceBEq,Int.reduceBNe,Nat.reduceAdd,Nat.reduceMul,Nat.reduceSub,Nat.reduceLeDiff]
      rw [hx]
      exact ⟨rfl,S2.pan,A2⟩
     | some k =>
      rw [hv2] at hx
      simp (disch:=(first | exact dz | fail)) only [Option.isSome_some,SXB,SX,reduceIte,Int.reduceLT,Int.reduceLE,Int.reduceToNat,Int.reduceBEq,Int.reduceBNe,Nat.reduceAdd,Nat.reduceMul,Nat.reduceSub,Nat.reduceLeDiff]
      refine X39_16_ok ?_
      unfold X39_16
      simp (disch:=(first | exact dz | fail)) only [w1,w2,SXB,SX,reduceIte,Int.reduceLT,Int.reduceLE,Int.reduceToNat,Int.reduceBEq,Int.reduceBNe,Nat.reduceAdd,Nat.reduceMul,Nat.reduceSub,Nat.reduceLeDiff]
      rw [hx]
      refine ⟨?_,S.adv (by (repeat (first | exact Adv.refl _ _ | assumption | refine Adv.push ?_ _ _ | refine Adv.put ?_ _ _ (by first | exact .inl rfl | (right;first | omega | (simp only [sz_push,sz_put];omega)))))) ?_,by (repeat (first | exact Adv.refl _ _ | assumption | refine Adv.push ?_ _ _ | refine Adv.put ?_ _ _ (by first | exact .inl rfl | (right;first | omega | (simp only [sz_push,sz_put];omega)))))⟩
      ·rw [encE,encEs];rfl
      ·rw [get_put_ne (by omega)];exact S2.row
   ·simp (disch:=(first | exact dz | fail)) only [SXB,SX,reduceIte,Int.reduceLT,Int.reduceLE,Int.reduceToNat,Int.reduceBEq,Int.reduceBNe,Nat.reduceAdd,Nat.reduceMul,Nat.reduceSub,Nat.reduceLeDiff]
    rw [hx,hf]
    exact ⟨rfl,p2,Adv.trans (.of_kp (by (repeat (first | exact Kp.refl _ _ | assumption | refine Kp.push ?_ _ _ (by first | omega | (simp only [sz_push,sz_put];omega)) | refine Kp.put ?_ _ _ (by first | omega | (simp only [sz_push,sz_put];omega)))))) a2⟩
end Go.Proofs.YtnaenhkldanjbaaDoor.L
end
