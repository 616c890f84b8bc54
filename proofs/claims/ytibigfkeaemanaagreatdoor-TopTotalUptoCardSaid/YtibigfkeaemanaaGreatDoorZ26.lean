import Derived.Test.YtibigfkeaemanaaGreatDoorZ25
set_option linter.unusedVariables false
set_option linter.unusedSimpArgs false
section
namespace Go.Proofs.YtibigfkeaemanaaGreatDoor.L
open Go.Ab Go.Lang Go.Proofs.YtibigfkeaemanaaGreatDoor.X
set_option maxRecDepth 100000
variable {ow:Bool}
theorem sigs_small:∀ s ∈ sigs,s.args.data.toList.length ≤ 3∧∃ c,s.ans.data.toList[0]?=some c:=by
 have:sigs.all (fun s=>decide (s.args.data.toList.length ≤ 3) && (s.ans.data.toList[0]?).isSome)=true:=by kernel_rfl
 intro s hs
 have:=List.all_eq_true.1 this s hs
 simp only [Bool.and_eq_true,decide_eq_true_eq] at this
 exact ⟨this.1,Option.isSome_iff_exists.1 this.2⟩
theorem ans_eq {s:Sig} {c:UInt8} (h:s.ans.data.toList[0]?=some c):(s.ans[0]!).toNat=c.toNat:=by rw [get_bang rfl h]
theorem findS_mem {f:ByteArray} {s:Sig} (h:findS f sigs=some s):s ∈ sigs:=List.mem_of_find?_eq_some h
theorem call_ok {h:AH} {kp n:Nat} {e t:Tok} {ts:List Tok} {bv:Value} {vs:List Var} {b l c:Nat} {rd:ExprRd} {Q:RQ} (hk:10 ≤ kp) (HE:c < 8→∀ ts,TokOK ts→ts.length ≤ n→ExprOK ow kp e bv vs b l (c + 1) rd ts) (hrd:RdOK rd) (hc:c ≤ 8)
  (S:PSg ow h kp e ts bv vs b l c) (G:Glob h) (ok:TokOK ts) (hlp:isT ts 4 mLp=true) (hn:ts.length ≤ n + 1)
  (hok:∀ x k ts3 h3,callF rd c t ts=.ok ((x,k),ts3)→PSg ow h3 kp e ts3 bv vs b l c→Adv kp h h3→Q (.ret (.tuple #[encE x,.int .u8 (k:Nat)])) h3)
  (herr:∀ f h3,callF rd c t ts=.error f→PanS h3 kp→Adv kp h h3→Q (.pan (faultV f)) h3) :
  HC Tryz.prog 62 [.pointer (some ⟨kp,0,none⟩),encT t].toArray h Q:=by
 refine HC.ghOr (X62_ok (Q:=QG Q) ?_)
 unfold X62
 have hlt:=S.lt
 have gk:=S.row
 unfold prow at gk
 obtain ⟨u,r,hts⟩:∃ u r,ts=u::r:=by cases ts with
  | nil=>exact absurd rfl ok.ne
  | cons u r=>exact ⟨u,r,rfl⟩
 simp (disch:=first|exact dz|fail) only [encT,gk,SXB,SX,simprocAttr]
 by_cases h8:8 ≤ c
 ·have e1:(8:Int) ≤ (c:Int):=by omega
  have hcf:callF rd c t ts=.error (164,headAt ts):=by unfold callF;rw [if_pos h8]
  simp (disch:=first|exact dz|fail) only [e1,SXB,SX,simprocAttr]
  refine HC.exact (peek_ok (ow:=ow) (t:=u) (r:=r) (bv:=bv) (vs:=vs) (b:=b) (l:=l) (c:=c) (e:=e) ?_) ?_
  ·rw [← hts]
   exact S.same (by (repeat (first | exact Kp.refl _ _ | assumption | refine Kp.push ?_ _ _ (by first | omega | (simp only [sz_push,sz_put];omega)) | refine Kp.put ?_ _ _ (by first | omega | (simp only [sz_push,sz_put];omega)))))
  simp (disch:=first|exact dz|fail) only [encT,SXB,SX,simprocAttr]
  refine fail_ok (k:=164) ?_
  simp (disch:=first|exact dz|fail) only [panD,SXB,SX,simprocAttr]
  refine .inr ?_
  have:=herr _ ((((h.push (.cells #[.pointer (some ⟨kp,0,none⟩)] 52 (0,0)) none).push (.cells #[.int .i64 t.cls,.int .i64 t.at_,.string t.text] 55 (0,0)) none).push (.cells #[.string ⟨#[]⟩,.int .i64 0,.int .i64 0,.string ⟨#[]⟩,.slice none 0 0] 64 (0,0)) none)) hcf ((S.same (by (repeat (first | exact Kp.refl _ _ | assumption | refine Kp.push ?_ _ _ (by first | omega | (simp only [sz_push,sz_put];omega)) | refine Kp.put ?_ _ _ (by first | omega | (simp only [sz_push,sz_put];omega)))))).pan) (.of_kp (by (repeat (first | exact Kp.refl _ _ | assumption | refine Kp.push ?_ _ _ (by first | omega | (simp only [sz_push,sz_put];omega)) | refine Kp.put ?_ _ _ (by first | omega | (simp only [sz_push,sz_put];omega))))))
  rw [hts] at this
  exact this
 ·have e1:¬ ((8:Int) ≤ (c:Int)):=by omega
  have hcf:callF rd c t ts=match findS t.text sigs with
   | none=>.error (162,t.at_)
   | some s=>restF rd t (s.ans[0]!).toNat s.args.data.toList true ts.tail []:=by
   unfold callF restF
   rw [if_neg h8]
   cases findS t.text sigs with
   | none=>rfl
   | some s=>rfl
  simp (disch:=first|exact dz|fail) only [e1,SXB,SX,simprocAttr]
  refine X62_3_ok ?_
  unfold X62_3
  have ec:IntKind.i64.wrap ((c:Int) + 1)=((c + 1:Nat):Int):=by rw [wrap64 (by omega) (by omega)];omega
  simp (disch:=first|exact dz|fail) only [gk,ec,SXB,SX,simprocAttr]
  have S1:PSg ow ((((h.push (.cells #[.pointer (some ⟨kp,0,none⟩)] 52 (0,0)) none).push (.cells #[.int .i64 t.cls,.int .i64 t.at_,.string t.text] 55 (0,0)) none).push (.cells #[.string ⟨#[]⟩,.int .i64 0,.int .i64 0,.string ⟨#[]⟩,.slice none 0 0] 64 (0,0)) none).put kp (prow (tokV e ts) bv b l (c + 1))) kp e ts bv vs b l (c + 1) :=
   S.adv (by (repeat (first | exact Adv.refl _ _ | assumption | refine Adv.push ?_ _ _ | refine Adv.put ?_ _ _ (by first | exact .inl rfl | (right;first | omega | (simp only [sz_push,sz_put];omega)))))) (get_put_eq rfl)
  refine want_ok S1 ok.ne 4 mLp (fun ts1 h2 hw S2 a2=>?_) (fun f hw=>?_)
  ·have htl:ts1=ts.tail:=by unfold Lang.want at hw;rw [if_pos hlp] at hw;cases hw;rfl
   have hsh:=want_shr hw (by omega) ok
   have hasz:=a2.size
   simp only [sz_push,sz_put] at hasz
   have A2:Adv kp h h2:=Adv.trans (by (repeat (first | exact Adv.refl _ _ | assumption | refine Adv.push ?_ _ _ | refine Adv.put ?_ _ _ (by first | exact .inl rfl | (right;first | omega | (simp only [sz_push,sz_put];omega)))))) a2
   have w1:h2.get h.size=some (.cells #[.pointer (some ⟨kp,0,none⟩)] 52 (0,0),none):=by
    rw [a2.get _ (by simp only [sz_push,sz_put];omega) (by omega)]
    simp (disch:=first|exact dz|fail) only [SXB,SX,simprocAttr]
   have w2:h2.get (h.size + 1)=some (.cells #[.int .i64 t.cls,.int .i64 t.at_,.string t.text] 55 (0,0),none):=by
    rw [a2.get _ (by simp only [sz_push,sz_put];omega) (by omega)]
    simp (disch:=first|exact dz|fail) only [SXB,SX,simprocAttr]
   have w3:h2.get (h.size + 2)=some (.cells #[.string ⟨#[]⟩,.int .i64 0,.int .i64 0,.string ⟨#[]⟩,.slice none 0 0] 64 (0,0),none):=by
    rw [a2.get _ (by simp only [sz_push,sz_put];omega) (by omega)]
    simp (disch:=first|exact dz|fail) only [SXB,SX,simprocAttr]
   simp (disch:=first|exact dz|fail) only [w2,SXB,SX,simprocAttr]
   refine HC.exact (find_ok (G.adv A2 hk) t.text) ?_
   cases hf:findS t.text sigs with
   | none =>
    rw [hf] at hcf
    simp (disch:=first|exact dz|fail) only [fres,sigV,w1,w2,SXB,SX,simprocAttr]
    refine fail_ok (k:=162) ?_
    simp (disch:=first|exact dz|fail) only [SXB,SX,simprocAttr]
    refine call_pan (f:=(162,t.at_)) hlt ?_ ?_ ((S2.same ?_).pan) fun h3 p a=>herr _ h3 hcf p a
    ·simp (disch:=first|exact dz|fail) only [SXB,SX,simprocAttr]
     exact w1
    ·(repeat (first | exact Adv.refl _ _ | assumption | refine Adv.push ?_ _ _ | refine Adv.put ?_ _ _ (by first | exact .inl rfl | (right;first | omega | (simp only [sz_push,sz_put];omega)))))
    ·(repeat (first | exact Kp.refl _ _ | assumption | refine Kp.push ?_ _ _ (by first | omega | (simp only [sz_push,sz_put];omega)) | refine Kp.put ?_ _ _ (by first | omega | (simp only [sz_push,sz_put];omega))))
   | some s =>
    rw [hf] at hcf
    simp only at hcf
    obtain ⟨hs1,ac,hs2⟩:=sigs_small s (findS_mem hf)
    have hsz:=size_list (s:=s.args) rfl
    simp (disch:=first|exact dz|fail) only [fres,sigV,w1,w2,SXB,SX,simprocAttr]
    refine X62_9_ok ?_
    unfold X62_9
    simp (disch:=first|exact dz|fail) only [w2,SXB,SX,simprocAttr]
    have:=call_loop (h:=h) (kp:=kp) (q:=h2.size) (n:=n) (e:=e) (t:=t) (ts0:=ts) (bv:=bv) (vs:=vs) (b:=b) (l:=l) (c:=c) (ans:=(s.ans[0]!).toNat) (rd:=rd) (s:=s) (al:=s.args.data.toList) (ac:=ac) (Q:=Q) hk (HE (by omega)) hrd hc S G rfl (by omega) hs2 (ans_eq hs2).symm
     s.args.data.toList 0 ts.tail ((((h2.push (.cells #[.string ⟨#[]⟩,.string ⟨#[]⟩,.string ⟨#[]⟩] 137 (0,0)) none).put h2.size (some (.cells #[.string s.name,.string s.args,.string s.ans] 137 (0,0),none))).push (.cells #[.string ⟨#[]⟩,.int .i64 0,.int .i64 0,.string ⟨#[]⟩,.slice none 0 0] 64 (0,0)) none).put (h2.size + 1) (some (.cells #[.string t.text,.int .i64 t.at_,.int .i64 0,.string ⟨#[]⟩,.slice none 0 0] 64 (0,0),none))) [] (.slice none 0 0) rfl (by omega) (htl ▸ hsh.1) (by have:=hsh.2;rw [htl] at this;omega) (htl ▸ S2.same (by (repeat (first | exact Kp.refl _ _ | assumption | refine Kp.push ?_ _ _ (by first | omega | (simp only [sz_push,sz_put];omega)) | refine Kp.put ?_ _ _ (by first | omega | (simp only [sz_push,sz_put];omega)))))) (by (repeat (first | exact Adv.refl _ _ | assumption | refine Adv.push ?_ _ _ | refine Adv.put ?_ _ _ (by first | exact .inl rfl | (right;first | omega | (simp only [sz_push,sz_put];omega))))))
     ⟨?_,?_,?_,?_,.nil,fun k hk=>(nomatch hk),?_,by omega⟩ rfl (fun x k ts3 h3 hr=>hok x k ts3 h3 (hcf.trans hr)) (fun f h3 hr=>herr f h3 (hcf.trans hr))
    ·rw [← hsz] at this
     exact this
    ·simp (disch:=first|exact dz|fail) only [SXB,SX,simprocAttr]
     exact w1
    ·simp (disch:=first|exact dz|fail) only [SXB,SX,simprocAttr]
     exact w3
    ·simp (disch:=first|exact dz|fail) only [SXB,SX,simprocAttr]
    ·simp (disch:=first|exact dz|fail) only [SXB,SX,simprocAttr]
    ·simp (disch:=first|exact dz|fail) only [SXB,SX,simprocAttr]
  ·unfold Lang.want at hw
   rw [if_pos hlp] at hw
   cases hw
theorem expr_ok:∀ (n:Nat) {kp:Nat} {e:Tok} {bv:Value} {vs:List Var} {b l c:Nat} {ts:List Tok},10 ≤ kp→c ≤ 8→VsOK vs→vs.length ≤ 1048576→TokOK ts→ts.length ≤ n→ExprOK ow kp e bv vs b l c (exprF n c vs) ts:=by
 intro n
 induction n with
 | zero=>intro kp e bv vs b l c ts _ _ _ _ ok hn;have:=ok.pos;omega
 | succ n ih =>
  intro kp e bv vs b l c ts hk hc hv hvl ok hn h S G
  cases ts with
  | nil=>exact absurd rfl ok.ne
  | cons t r =>
   refine X49_ok ?_
   unfold X49
   have hlt:=S.lt
   simp (disch:=first|exact dz|fail) only [SXB,SX,simprocAttr]
   refine HC.exact (peek_ok (ow:=ow) (t:=t) (r:=r) (bv:=bv) (vs:=vs) (b:=b) (l:=l) (c:=c) (e:=e) (S.same ?_)) ?_
   ·(repeat (first | exact Kp.refl _ _ | assumption | refine Kp.push ?_ _ _ (by first | omega | (simp only [sz_push,sz_put];omega)) | refine Kp.put ?_ _ _ (by first | omega | (simp only [sz_push,sz_put];omega))))
   simp (disch:=first|exact dz|fail) only [encT,SXB,SX,simprocAttr]
   by_cases hc2:t.cls=2
   ·have e1:((t.cls:Int) == 2)=true:=by simp [hc2]
    have hg:=ok.good (by omega)
    have hx:exprF (n + 1) c vs (t::r)=.ok ((.mk wNumber t.at_ (num t.text) empty [],kN),r):=by simp [exprF,hc2]
    simp (disch:=first|exact dz|fail) only [e1,SXB,SX,simprocAttr]
    refine take_ok (ow:=ow) (t:=t) (r:=r) (bv:=bv) (vs:=vs) (b:=b) (l:=l) (c:=c) (e:=e) (S.same ?_) fun h2 S2 a2=>?_
    ·(repeat (first | exact Kp.refl _ _ | assumption | refine Kp.push ?_ _ _ (by first | omega | (simp only [sz_push,sz_put];omega)) | refine Kp.put ?_ _ _ (by first | omega | (simp only [sz_push,sz_put];omega))))
    have hasz:=a2.size
    simp only [sz_push,sz_put] at hasz
    have A2:Adv kp h h2:=Adv.trans (.of_kp (by (repeat (first | exact Kp.refl _ _ | assumption | refine Kp.push ?_ _ _ (by first | omega | (simp only [sz_push,sz_put];omega)) | refine Kp.put ?_ _ _ (by first | omega | (simp only [sz_push,sz_put];omega)))))) a2
    have w1:h2.get h.size=some (.cells #[.string ⟨#[]⟩,.int .i64 0,.int .i64 0,.string ⟨#[]⟩,.slice none 0 0] 64 (0,0),none):=by
     rw [a2.get _ (by simp only [sz_push,sz_put];omega) (by omega)]
     simp (disch:=first|exact dz|fail) only [SXB,SX,simprocAttr]
    have w2:h2.get (h.size + 1)=some (.cells #[.int .i64 t.cls,.int .i64 t.at_,.string t.text] 55 (0,0),none):=by
     rw [a2.get _ (by simp only [sz_push,sz_put];omega) (by omega)]
     simp (disch:=first|exact dz|fail) only [SXB,SX,simprocAttr]
    simp (disch:=first|exact dz|fail) only [w2,SXB,SX,simprocAttr]
    refine HC.exact (atoi_ok (hg.num hc2)) ?_
    simp (disch:=first|exact dz|fail) only [w1,w2,SXB,SX,simprocAttr]
    rw [hx]
    refine ⟨?_,S.adv (by (repeat (first | exact Adv.refl _ _ | assumption | refine Adv.push ?_ _ _ | refine Adv.put ?_ _ _ (by first | exact .inl rfl | (right;first | omega | (simp only [sz_push,sz_put];omega)))))) ?_,by (repeat (first | exact Adv.refl _ _ | assumption | refine Adv.push ?_ _ _ | refine Adv.put ?_ _ _ (by first | exact .inl rfl | (right;first | omega | (simp only [sz_push,sz_put];omega)))))⟩
    ·rw [encE,encEs];rfl
    ·rw [get_put_ne (by omega)];exact S2.row
   by_cases h3:t.cls=3
   ·have e1:((t.cls:Int) == 2)=false:=by simp [h3]
    have e2:((t.cls:Int) == 3)=true:=by simp [h3]
    have hx:exprF (n + 1) c vs (t::r)=.ok ((.mk wString t.at_ 0 t.text [],kT),r):=by simp [exprF,h3]
    simp (disch:=first|exact dz|fail) only [e1,e2,SXB,SX,simprocAttr]
    refine take_ok (ow:=ow) (t:=t) (r:=r) (bv:=bv) (vs:=vs) (b:=b) (l:=l) (c:=c) (e:=e) (S.same ?_) fun h2 S2 a2=>?_
    ·(repeat (first | exact Kp.refl _ _ | assumption | refine Kp.push ?_ _ _ (by first | omega | (simp only [sz_push,sz_put];omega)) | refine Kp.put ?_ _ _ (by first | omega | (simp only [sz_push,sz_put];omega))))
    have hasz:=a2.size
    simp only [sz_push,sz_put] at hasz
    have A2:Adv kp h h2:=Adv.trans (.of_kp (by (repeat (first | exact Kp.refl _ _ | assumption | refine Kp.push ?_ _ _ (by first | omega | (simp only [sz_push,sz_put];omega)) | refine Kp.put ?_ _ _ (by first | omega | (simp only [sz_push,sz_put];omega)))))) a2
    have w1:h2.get h.size=some (.cells #[.string ⟨#[]⟩,.int .i64 0,.int .i64 0,.string ⟨#[]⟩,.slice none 0 0] 64 (0,0),none):=by
     rw [a2.get _ (by simp only [sz_push,sz_put];omega) (by omega)]
     simp (disch:=first|exact dz|fail) only [SXB,SX,simprocAttr]
    have w2:h2.get (h.size + 1)=some (.cells #[.int .i64 t.cls,.int .i64 t.at_,.string t.text] 55 (0,0),none):=by
     rw [a2.get _ (by simp only [sz_push,sz_put];omega) (by omega)]
     simp (disch:=first|exact dz|fail) only [SXB,SX,simprocAttr]
    simp (disch:=first|exact dz|fail) only [w1,w2,SXB,SX,simprocAttr]
    rw [hx]
    refine ⟨?_,S.adv (by (repeat (first | exact Adv.refl _ _ | assumption | refine Adv.push ?_ _ _ | refine Adv.put ?_ _ _ (by first | exact .inl rfl | (right;first | omega | (simp only [sz_push,sz_put];omega)))))) ?_,by (repeat (first | exact Adv.refl _ _ | assumption | refine Adv.push ?_ _ _ | refine Adv.put ?_ _ _ (by first | exact .inl rfl | (right;first | omega | (simp only [sz_push,sz_put];omega)))))⟩
    ·rw [encE,encEs];rfl
    ·rw [get_put_ne (by omega)];exact S2.row
   have e1:((t.cls:Int) == 2)=false:=by simp;omega
   have e2:((t.cls:Int) == 3)=false:=by simp;omega
   have hx:exprF (n + 1) c vs (t::r)=match fresh (t::r) with
     | .error f=>.error f
     | .ok (t,r)=>if isT r 4 mLp then callF (exprF n (c + 1) vs) c t r else match Lang.kindOf vs t.text with
      | some k=>.ok ((.mk wVar t.at_ 0 t.text [],k),r)
      | none=>.error (162,t.at_):=by
    have f2:(t.cls == 2)=false:=by simpa using hc2
    have f3:(t.cls == 3)=false:=by simpa using h3
    simp only [exprF,f2,f3,Bool.false_eq_true,if_false]
    rfl
   simp (disch:=first|exact dz|fail) only [e1,e2,SXB,SX,simprocAttr]
   refine fresh_ok (ow:=ow) (t:=t) (r:=r) (bv:=bv) (vs:=vs) (b:=b) (l:=l) (c:=c) (e:=e) (S.same ?_) hk (G.kp ?_) (fun h1=>⟨(ok.good (by omega)).name h1,(ok.good (by omega)).size⟩) (fun h2 hf S2 a2=>?_) (fun f h2 hf p2 a2=>?_)
   ·(repeat (first | exact Kp.refl _ _ | assumption | refine Kp.push ?_ _ _ (by first | omega | (simp only [sz_push,sz_put];omega)) | refine Kp.put ?_ _ _ (by first | omega | (simp only [sz_push,sz_put];omega))))
   ·(repeat (first | exact Kp.refl _ _ | assumption | refine Kp.push ?_ _ _ (by first | omega | (simp only [sz_push,sz_put];omega)) | refine Kp.put ?_ _ _ (by first | omega | (simp only [sz_push,sz_put];omega))))
   ·have hasz:=a2.size
    simp only [sz_push,sz_put] at hasz
    have A2:Adv kp h h2:=Adv.trans (.of_kp (by (repeat (first | exact Kp.refl _ _ | assumption | refine Kp.push ?_ _ _ (by first | omega | (simp only [sz_push,sz_put];omega)) | refine Kp.put ?_ _ _ (by first | omega | (simp only [sz_push,sz_put];omega)))))) a2
    have w1:h2.get h.size=some (.cells #[.string ⟨#[]⟩,.int .i64 0,.int .i64 0,.string ⟨#[]⟩,.slice none 0 0] 64 (0,0),none):=by
     rw [a2.get _ (by simp only [sz_push,sz_put];omega) (by omega)]
     simp (disch:=first|exact dz|fail) only [SXB,SX,simprocAttr]
    have w2:h2.get (h.size + 1)=some (.cells #[.int .i64 t.cls,.int .i64 t.at_,.string t.text] 55 (0,0),none):=by
     rw [a2.get _ (by simp only [sz_push,sz_put];omega) (by omega)]
     simp (disch:=first|exact dz|fail) only [SXB,SX,simprocAttr]
    obtain ⟨_,hc1,_,hsh⟩:=fresh_shr hf ok
    rw [hf] at hx
    simp only at hx
    simp (disch:=first|exact dz|fail) only [SXB,SX,simprocAttr]
    refine HC.exact (is_ok S2 hsh.1.ne 4 mLp) ?_
    cases hlp:isT r 4 mLp with
    | true =>
     rw [hlp] at hx
     simp only [if_true] at hx
     simp (disch:=first|exact dz|fail) only [w2,SXB,SX,simprocAttr]
     have hlen:=hsh.2
     refine call_ok (t:=t) hk (fun hc8 ts' ok' hn'=>ih hk (by omega) hv hvl ok' hn') (exprF_ok n (c + 1) hv) hc S2 (G.adv A2 hk) hsh.1 hlp (n:=n) (by simp at hn;omega) (fun x k ts3 h3 hr S3 a3=>?_) (fun f h3 hr p3 a3=>?_)
     ·have hasz3:=a3.size
      have A3:=A2.trans a3
      have v1:h3.get h.size=some (.cells #[.string ⟨#[]⟩,.int .i64 0,.int .i64 0,.string ⟨#[]⟩,.slice none 0 0] 64 (0,0),none):=(a3.get _ (by omega) (by omega)).trans w1
      cases x with
      | mk op ax nx tx args =>
       rw [encE]
       simp (disch:=first|exact dz|fail) only [v1,SXB,SX,simprocAttr]
       rw [hx,hr]
       refine ⟨?_,S.adv (by (repeat (first | exact Adv.refl _ _ | assumption | refine Adv.push ?_ _ _ | refine Adv.put ?_ _ _ (by first | exact .inl rfl | (right;first | omega | (simp only [sz_push,sz_put];omega)))))) ?_,by (repeat (first | exact Adv.refl _ _ | assumption | refine Adv.push ?_ _ _ | refine Adv.put ?_ _ _ (by first | exact .inl rfl | (right;first | omega | (simp only [sz_push,sz_put];omega)))))⟩
       ·rw [encE]
       ·rw [get_put_ne (by omega)];exact S3.row
     ·simp (disch:=first|exact dz|fail) only [SXB,SX,simprocAttr]
      rw [hx,hr]
      exact ⟨rfl,p3,A2.trans a3⟩
    | false =>
     rw [hlp] at hx
     simp only [Bool.false_eq_true,if_false] at hx
     simp (disch:=first|exact dz|fail) only [w2,SXB,SX,simprocAttr]
     refine HC.exact (kindOf_ok S2 hvl t.text) ?_
     simp (disch:=first|exact dz|fail) only [kres,SXB,SX,simprocAttr]
     cases hv2:Lang.kindOf vs t.text with
     | none =>
      rw [hv2] at hx
      simp (disch:=first|exact dz|fail) only [Option.isSome_none,w2,SXB,SX,simprocAttr]
      refine fail_ok (k:=162) ?_
      simp (disch:=first|exact dz|fail) only [SXB,SX,simprocAttr]
      rw [hx]
      exact ⟨rfl,S2.pan,A2⟩
     | some k =>
      rw [hv2] at hx
      simp (disch:=first|exact dz|fail) only [Option.isSome_some,SXB,SX,simprocAttr]
      refine X49_16_ok ?_
      unfold X49_16
      simp (disch:=first|exact dz|fail) only [w1,w2,SXB,SX,simprocAttr]
      rw [hx]
      refine ⟨?_,S.adv (by (repeat (first | exact Adv.refl _ _ | assumption | refine Adv.push ?_ _ _ | refine Adv.put ?_ _ _ (by first | exact .inl rfl | (right;first | omega | (simp only [sz_push,sz_put];omega)))))) ?_,by (repeat (first | exact Adv.refl _ _ | assumption | refine Adv.push ?_ _ _ | refine Adv.put ?_ _ _ (by first | exact .inl rfl | (right;first | omega | (simp only [sz_push,sz_put];omega)))))⟩
      ·rw [encE,encEs];rfl
      ·rw [get_put_ne (by omega)];exact S2.row
   ·simp (disch:=first|exact dz|fail) only [SXB,SX,simprocAttr]
    rw [hx,hf]
    exact ⟨rfl,p2,Adv.trans (.of_kp (by (repeat (first | exact Kp.refl _ _ | assumption | refine Kp.push ?_ _ _ (by first | omega | (simp only [sz_push,sz_put];omega)) | refine Kp.put ?_ _ _ (by first | omega | (simp only [sz_push,sz_put];omega)))))) a2⟩
end Go.Proofs.YtibigfkeaemanaaGreatDoor.L
end
section
namespace Go.Proofs.YtibigfkeaemanaaGreatDoor.L
open Go.Ab Go.Lang Go.Proofs.YtibigfkeaemanaaGreatDoor.X
set_option maxRecDepth 100000
def Bv (h:AH) (bv bv':Value):Prop:=∀ k,blkOf bv' = some k→blkOf bv=some k ∨ h.size ≤ k
theorem Bv.refl (h:AH) (bv:Value):Bv h bv bv:=fun _ h=>.inl h
theorem Bv.trans {h h1:AH} {a b c:Value} (x:Bv h a b) (y:Bv h1 b c) (hs:h.size ≤ h1.size):Bv h a c:=fun k hk=>by
 rcases y k hk with h | h
 ·exact x k h
 ·exact .inr (Nat.le_trans hs h)
def BPost (kp:Nat) (e:Tok) (bv:Value) (vs:List Var) (b l:Nat) (h:AH) (rs:R (List Lang.Stmt × List Tok)) (r:Res) (h':AH):Prop:=match rs with
 | .ok (ss,ts')=>r=.ret (slV (encSs ss))∧(∃ bv',PS h' kp e ts' bv' vs b l 0∧Bv h bv bv')∧AdvB kp bv h h'
 | .error f=>r=.pan (faultV f)∧PanS h' kp∧AdvB kp bv h h'
def SPost (kp:Nat) (e:Tok) (bv:Value) (b l:Nat) (h:AH) (rs:R ((Lang.Stmt × List Var) × List Tok)) (r:Res) (h':AH):Prop:=match rs with
 | .ok ((s,vs'),ts')=>r=.ret (encS s)∧(∃ bv',PS h' kp e ts' bv' vs' b l 0∧Bv h bv bv')∧AdvB kp bv h h'
 | .error f=>r=.pan (faultV f)∧PanS h' kp∧AdvB kp bv h h'
structure LoG (gN kp:Nat) (bv:Value):Prop where
 kp:gN ≤ kp
 bv:∀ k,blkOf bv=some k→gN ≤ k
def BlockOK (kp:Nat) (e:Tok) (b l:Nat) (blk:BlockRd) (M:Nat):Prop:=∀ (loop:Bool) (bv mv:Value) (vs more:List Var) (ts:List Tok) (h:AH),TokOK ts→ts.length ≤ M→VsOK vs→VsOK more→vs.length + more.length + ts.length ≤ 100000→PS h kp e ts bv vs b l 0→LoG 10 kp bv→Glob h →
 (∀ h',Adv kp h h'→Src h' 2 mv (more.map encV))→HC Tryz.prog 29 [.pointer (some ⟨kp,0,none⟩),.bool loop,mv].toArray h (BPost kp e bv vs b l h (blk loop (vs++more) ts))
def StmtOK (kp:Nat) (e:Tok) (b l:Nat) (blk:BlockRd) (M:Nat):Prop:=∀ (bv:Value) (vs:List Var) (ts:List Tok) (h:AH),TokOK ts→ts.length ≤ M→VsOK vs→vs.length + ts.length ≤ 100000→PS h kp e ts bv vs b l 0→LoG 10 kp bv→Glob h →
 HC Tryz.prog 48 [.pointer (some ⟨kp,0,none⟩)].toArray h (SPost kp e bv b l h (stmtF blk vs ts))
theorem Glob.advB {kp:Nat} {bv:Value} {h h':AH} (G:Glob h) (a:AdvB kp bv h h') (L:LoG 10 kp bv):Glob h':=by
 obtain ⟨⟨m,e,fz,s,h1⟩,⟨e2,fz2,s2,h2⟩,h3⟩:=G
 have hk:=L.kp
 exact ⟨⟨m,e,fz,s,(a.get _ (by omega) (by omega) (fun e=>by have:=L.bv _ e;omega)).trans h1⟩,⟨e2,fz2,s2,(a.get _ (by omega) (by omega) (fun e=>by have:=L.bv _ e;omega)).trans h2⟩,Nat.le_trans h3 a.size⟩
theorem LoG.of_bv {h:AH} {kp:Nat} {bv bv':Value} (L:LoG 10 kp bv) (B:Bv h bv bv') (G:Glob h):LoG 10 kp bv':=⟨L.kp,fun k hk=>by
 rcases B k hk with h | h
 ·exact L.bv k h
 ·exact Nat.le_trans G.size h⟩
theorem AdvB.put {kp:Nat} {bv:Value} {h h':AH} (x:AdvB kp bv h h') (j:Nat) (v:Option (Obj × Option Nat)) (hj:j=kp ∨ h.size ≤ j):AdvB kp bv h (h'.put j v):=⟨by simpa using x.size,fun k hk hn hb=>by rw [get_put_ne (by rcases hj with rfl | hj <;> omega)];exact x.get k hk hn hb⟩
theorem AdvB.push {kp:Nat} {bv:Value} {h h':AH} (x:AdvB kp bv h h') (o:Obj) (s:Option Nat):AdvB kp bv h (h'.push o s):=⟨by have:=x.size;simp;omega,fun k hk hn hb=>by rw [get_push_ne (by have:=x.size;omega)];exact x.get k hk hn hb⟩
theorem block_loop {h:AH} {kp n:Nat} {e:Tok} {bv:Value} {vs:List Var} {b l:Nat} {loop:Bool} {Q:RQ} (hb:b ≤ 8) (hl:l ≤ 2) (HS:∀ m,m < n→StmtOK kp e (b + 1) (if loop then l + 1 else l) (blockG (stmtsF m) (b + 1) (if loop then l + 1 else l)) (m + 1))
  (L:LoG 10 kp bv) (G:Glob h) (hlt:kp < h.size) (hltb:∀ k,blkOf bv=some k→k < h.size) :
  ∀ (m:Nat) (ts1:List Tok) (h1:AH) (vs1:List Var) (bv1 sv:Value) (ss:List Lang.Stmt),m ≤ n→TokOK ts1→ts1.length ≤ m→VsOK vs1→(∃ ex,vs1=vs++ex)→vs1.length + ts1.length ≤ 100000→ss.length + ts1.length ≤ 100000 →
   PS h1 kp e ts1 bv1 vs1 (b + 1) (if loop then l + 1 else l) 0→AdvB kp bv h h1→Bv h bv bv1→Hld 104 14 h1 h.size sv (encSs ss)→(∀ k,blkOf sv=some k→k < h1.size∧blkOf bv1 ≠ some k) →
   (∀ ss' ts3 h3 bv3,stmtsF m (b + 1) (if loop then l + 1 else l) vs1 ts1=.ok (ss',ts3)→PS h3 kp e ts3 bv3 vs b l 0→Bv h bv bv3→AdvB kp bv h h3→Q (.ret (slV (encSs (ss++ss')))) h3) →
   (∀ f h3,stmtsF m (b + 1) (if loop then l + 1 else l) vs1 ts1=.error f→PanS h3 kp→AdvB kp bv h h3→Q (.pan (faultV f)) h3) →
   H29_12 (.pointer (some ⟨kp,0,none⟩)) (.int .i64 (if loop then 1 else 0)) (.int .i64 vs.length) sv h1 (QG Q):=by
 intro m
 induction m with
 | zero=>intro ts1 h1 vs1 bv1 sv ss _ ok hn;have:=ok.pos;omega
 | succ m ih =>
  intro ts1 h1 vs1 bv1 sv ss hm ok hn hv hex hsz hsz2 S A B O sep hok herr
  have hkg:=L.kp
  refine X29_12_ok ?_
  unfold X29_12
  simp (disch:=first|exact dz|fail) only [SXB,SX,simprocAttr]
  refine HC.exact (is_ok S ok.ne 4 mRb) ?_
  have hspec:stmtsF (m + 1) (b + 1) (if loop then l + 1 else l) vs1 ts1=if isT ts1 4 mRb then .ok ([],ts1.tail) else match stmtF (blockG (stmtsF m) (b + 1) (if loop then l + 1 else l)) vs1 ts1 with
    | .error f=>.error f
    | .ok ((s,vs),ts)=>match stmtsF m (b + 1) (if loop then l + 1 else l) vs ts with
     | .error f=>.error f
     | .ok (ss,ts)=>.ok (s::ss,ts):=rfl
  cases hrb:isT ts1 4 mRb with
  | true =>
   rw [hrb] at hspec
   simp only [if_true] at hspec
   obtain ⟨t,r,hts,_⟩:=isT_cls hrb
   simp (disch:=first|exact dz|fail) only [SXB,SX,simprocAttr]
   refine take_ok (t:=t) (r:=r) (hts ▸ S) fun h2 S2 a2=>?_
   obtain ⟨ex,hex⟩:=hex
   have hle:vs.length ≤ vs1.length:=by rw [hex];simp
   obtain ⟨d,hd,hds⟩:∃ d,(Tryz.prog).info? 86=some d∧d.size=2:=⟨_,rfl,by kernel_rfl⟩
   obtain ⟨bv2,hcut,O2,hblk⟩:=S2.own.cut (P:=Tryz.prog) (t:=56) (el:=86) (by kernel_rfl) hd hds (encVs_size vs1) (k:=vs.length) (by simpa using hle)
   have etake:(vs1.map encV).take vs.length=vs.map encV:=by rw [← List.map_take,hex];simp
   rw [etake] at O2
   have gk:=S2.row
   unfold prow at gk
   obtain ⟨x1,x2,x3,rfl⟩:=O2.isSl
   have ew:IntKind.i64.wrap (((b + 1:Nat):Int) - 1)=(b:Int):=by rw [wrap64 (by omega) (by omega)];omega
   have el:IntKind.i64.wrap ((((if loop then l + 1 else l):Nat):Int) - (if loop then 1 else 0))=(l:Int):=by
    cases loop
    ·simp only [Bool.false_eq_true,if_false];rw [wrap64 (by omega) (by omega)];omega
    ·simp only [if_true];rw [wrap64 (by omega) (by omega)];omega
   simp (disch:=first|exact dz|fail) only [gk,hcut,ew,el,SXB,SX,simprocAttr]
   have hkey:=O.key
   have hks:∀ k,blkOf sv=some k→k ≠ kp:=fun k hk e=>by have:=hkey k hk;omega
   have H:=O.mono (h':=((h2.put kp (prow (tokV e r) (.slice x1 x2 x3) (b + 1) (if loop then l + 1 else l) 0)).put kp (prow (tokV e r) (.slice x1 x2 x3) b (if loop then l + 1 else l) 0)).put kp (prow (tokV e r) (.slice x1 x2 x3) b l 0)) fun k hk=>by
    rw [get_put_ne (hks k hk),get_put_ne (hks k hk),get_put_ne (hks k hk)]
    exact a2.get k (sep k hk).1 (hks k hk)
   obtain ⟨h3,gu,gf,gs⟩:=H.turn (P:=Tryz.prog) (by omega) (encSs_size ss)
   have gk3:∀ k,blkOf sv ≠ some k→k ≠ kp→h3.get k=h2.get k:=fun k h1 h2=>by rw [gf k h1,get_put_ne h2,get_put_ne h2,get_put_ne h2]
   have gkp:h3.get kp=prow (tokV e r) (.slice x1 x2 x3) b l 0:=by rw [gf kp (fun e=>hks kp e rfl),get_put_eq rfl]
   have s3:h3.size=h2.size:=by rw [gs];simp
   have A3:AdvB kp bv h h3:=⟨by rw [s3];exact Nat.le_trans A.size a2.size,fun k h1 h2 h4=>by
    rw [gk3 k (fun e=>by have:=hkey k e;omega) h2,a2.get k (by have:=A.size;omega) h2]
    exact A.get k h1 h2 h4⟩
   refine .inl ⟨_,slV (encSs ss),h3,rfl,Gh.turn gu .here,?_⟩
   have hfin:=hok [] r h3 (.slice x1 x2 x3) (by rw [hspec,hts];rfl) ⟨gkp,O2.mono fun k hk=>?_,?_,?_,?_⟩ ?_ A3
   ·rw [List.append_nil] at hfin;exact hfin
   ·rw [hblk] at hk
    exact gk3 k (fun e=>(sep k e).2 hk) fun e=>S2.ne (by rw [hk,e])
   ·rw [hblk];exact S2.ne
   ·rw [s3];exact S2.lt
   ·intro k hk
    rw [hblk] at hk
    rw [s3];exact S2.ltb k hk
   ·intro k hk
    rw [hblk] at hk
    exact B k hk
  | false =>
   rw [hrb] at hspec
   simp only [Bool.false_eq_true,if_false] at hspec
   simp (disch:=first|exact dz|fail) only [SXB,SX,simprocAttr]
   refine HC.mono (HS m (by omega) bv1 vs1 ts1 h1 ok hn hv hsz S (L.of_bv B G) (G.advB A L)) fun r h2 hp=>?_
   cases hst:stmtF (blockG (stmtsF m) (b + 1) (if loop then l + 1 else l)) vs1 ts1 with
   | error f =>
    rw [hst] at hp hspec
    obtain ⟨rfl,p,a⟩:=hp
    simp (disch:=first|exact dz|fail) only [SXB,SX,simprocAttr]
    exact .inr (herr f h2 hspec p (A.trans a B))
   | ok y =>
    obtain ⟨⟨s,vs2⟩,ts2⟩:=y
    rw [hst] at hp hspec
    simp only at hspec
    obtain ⟨rfl,⟨bv2,S2,B2⟩,a⟩:=hp
    obtain ⟨sh,hv2,ex2,hex2,hex3⟩:=stmtF_shr (blockG_ok m _ _) hv ok hst
    have A2:=A.trans a B
    have B2':=B.trans B2 A.size
    have O2:Hld 104 14 h2 h.size sv (encSs ss):=O.mono fun k hk=>by
     have:=sep k hk
     have:=O.key k hk
     exact a.get k (sep k hk).1 (by omega) (sep k hk).2
    have sep2:∀ k,blkOf sv=some k→k < h2.size∧blkOf bv2 ≠ some k:=fun k hk=>⟨Nat.lt_of_lt_of_le (sep k hk).1 a.size,fun e=>by
     rcases B2 k e with h | h
     ·exact (sep k hk).2 h
     ·have:=(sep k hk).1;omega⟩
    simp (disch:=first|exact dz|fail) only [SXB,SX,simprocAttr]
    have hsz14:(encS s).cells.size=14:=by rw [encS_cells];simp [celS_len]
    rw [bdF_one hsz14 rfl]
    simp (disch:=first|exact dz|fail) only [SXB,SX,simprocAttr]
    obtain ⟨s',h3,q1,q2,q3,q4,q5⟩:=O2.append1 (v:=encS s) (c:=(encS s).cells) (bytes:=224) (zero:=encS (.mk empty empty .zero .zero [] [])) rfl (fun k hk=>(sep2 k hk).1) (A2.size) (encSs_size ss) hsz14
     (fun y hy=>by rw [encS_cells] at hy;exact celS_one s y (by simpa using hy)) (by omega) (by omega) (by omega) (by rw [encS_cells];simp [celS_len]) (by rw [encSs_eq,List.length_map];omega)
    refine bq_of q1 ?_
    have hkey:=O2.key
    have gf:∀ k,k < h2.size→blkOf sv ≠ some k→h3.get k=h2.get k:=q4
    have S3:PS h3 kp e ts2 bv2 vs2 (b + 1) (if loop then l + 1 else l) 0:=⟨(gf kp S2.lt fun e=>by have:=hkey _ e;omega).trans S2.row,S2.own.mono fun k hk=>gf k (S2.ltb k hk) fun e=>(sep2 k e).2 hk,S2.ne,Nat.lt_of_lt_of_le S2.lt q3,fun k hk=>Nat.lt_of_lt_of_le (S2.ltb k hk) q3⟩
    have A3:AdvB kp bv h h3:=⟨Nat.le_trans A2.size q3,fun k h1 h2 h4=>(gf k (Nat.lt_of_lt_of_le h1 A2.size) fun e=>by have:=hkey k e;omega).trans (A2.get k h1 h2 h4)⟩
    obtain ⟨ex,hex⟩:=hex
    have hlen:=sh.2
    have hvl:vs2.length + ts2.length ≤ 100000:=by
     rw [hex2,List.length_append];omega
    refine ih ts2 h3 vs2 bv2 s' (ss++[s]) (by omega) sh.1 (by omega) hv2 ⟨ex++ex2,by rw [hex2,hex];simp⟩ hvl (by simp;omega) S3 A3 B2' (by rw [encSs_eq,List.map_append,← encSs_eq];exact q2) (fun k hk=>?_) (fun ss' ts3 h4 bv3 hr S4 B4 a4=>?_) (fun f h4 hr p4 a4=>?_)
    ·rcases q5 with e1 | ⟨k',e1,e2,e3⟩
     ·rw [e1] at hk
      exact ⟨Nat.lt_of_lt_of_le (sep2 k hk).1 q3,(sep2 k hk).2⟩
     ·rw [e1] at hk;cases hk
      exact ⟨e3,fun e=>by have:=S2.ltb _ e;omega⟩
    ·have:=hok (s::ss') ts3 h4 bv3 (by rw [hspec,hr]) S4 B4 a4
     simpa using this
    ·exact herr f h4 (by rw [hspec,hr]) p4 a4
end Go.Proofs.YtibigfkeaemanaaGreatDoor.L
end
section
namespace Go.Proofs.YtibigfkeaemanaaGreatDoor.L
open Go.Ab Go.Lang Go.Proofs.YtibigfkeaemanaaGreatDoor.X
set_option maxRecDepth 100000
theorem block_tail {kp n:Nat} {e:Tok} {b l:Nat} {loop:Bool} {bv mv:Value} {vs more:List Var} {ts:List Tok} {h:AH} (hb:b ≤ 8) (hl:l ≤ 2) (hchk:isT ts 4 mLb=true→b < 8∧(loop=true→l < 2))
  (HS:b < 8→(loop=true→l < 2)→∀ m,m < n→StmtOK kp e (b + 1) (if loop then l + 1 else l) (blockG (stmtsF m) (b + 1) (if loop then l + 1 else l)) (m + 1))
  (ok:TokOK ts) (hn:ts.length ≤ n) (hv:VsOK vs) (hm:VsOK more) (hsz:vs.length + more.length + ts.length ≤ 100000) (S:PS h kp e ts bv vs b l 0) (L:LoG 10 kp bv) (G:Glob h) (hsrc:∀ h',Adv kp h h'→Src h' 2 mv (more.map encV)) :
  K29_6 (.pointer (some ⟨kp,0,none⟩)) mv (.int .i64 (if loop then 1 else 0)) h (QG (BPost kp e bv vs b l h (blockG (stmtsF n) b l loop (vs++more) ts))):=by
 refine X29_6_ok ?_
 unfold X29_6
 have hlt:=S.lt
 have hspec:blockG (stmtsF n) b l loop (vs++more) ts=match Lang.want 4 mLb ts with
   | .error f=>.error f
   | .ok ts=>stmtsF n (b + 1) (if loop then l + 1 else l) (vs++more) ts:=by
  unfold blockG
  rw [if_neg]
  ·rfl
  ·intro hh
   simp only [Bool.and_eq_true,Bool.or_eq_true,decide_eq_true_eq] at hh
   have:=hchk hh.1
   rcases hh.2 with h | h
   ·omega
   ·have:=this.2 h.1;omega
 simp (disch:=first|exact dz|fail) only [SXB,SX,simprocAttr]
 refine want_ok S ok.ne 4 mLb (fun ts2 h2 hw S2 a2=>?_) (fun f hw=>?_)
 ·have hsh:=want_shr hw (by omega) ok
  have hlb:isT ts 4 mLb=true:=by
   unfold Lang.want at hw
   split at hw
   ·assumption
   ·cases hw
  obtain ⟨hb8,hl2⟩:=hchk hlb
  rw [hw] at hspec
  simp only at hspec
  have gk:=S2.row
  unfold prow at gk
  have ew:IntKind.i64.wrap ((b:Int) + 1)=((b + 1:Nat):Int):=by rw [wrap64 (by omega) (by omega)];omega
  have el:IntKind.i64.wrap ((l:Int) + (if loop then 1 else 0))=(((if loop then l + 1 else l):Nat):Int):=by
   cases loop
   ·simp only [Bool.false_eq_true,if_false];rw [wrap64 (by omega) (by omega)];omega
   ·simp only [if_true];rw [wrap64 (by omega) (by omega)];omega
  obtain ⟨x1,x2,x3,rfl⟩:=S2.own.isSl
  have elen:=S2.own.len
  rw [List.length_map] at elen
  simp (disch:=first|exact dz|fail) only [gk,ew,el,elen,SXB,SX,simprocAttr]
  have O:Ab.Own 86 2 ((h2.put kp (prow (tokV e ts2) (.slice x1 x2 x3) (b + 1) l 0)).put kp (prow (tokV e ts2) (.slice x1 x2 x3) (b + 1) (if loop then l + 1 else l) 0)) (.slice x1 x2 x3) (vs.map encV):=S2.own.mono fun k hk=>by
   rw [get_put_ne (fun e=>S2.ne (by rw [hk,e])),get_put_ne (fun e=>S2.ne (by rw [hk,e]))]
  obtain ⟨s',h3,q1,q2,q3,q4,q5⟩:=O.append (bytes:=24) (zero:=.agg #[.string ⟨#[]⟩,.int .u8 0]) (hsrc _ (by (repeat (first | exact Adv.refl _ _ | assumption | refine Adv.push ?_ _ _ | refine Adv.put ?_ _ _ (by first | exact .inl rfl | (right;first | omega | (simp only [sz_push,sz_put];omega))))))) (encVs_size vs) (encVs_size more) (encVs_one more) (by omega) (by omega) (by omega) rfl (by simp only [List.length_map];omega)
  simp only [sz_put] at q3 q4 q5
  refine bq_of q1 ?_
  obtain ⟨y1,y2,y3,rfl⟩:=q2.isSl
  have gk3:h3.get kp=some (.cells #[tokV e ts2,.slice x1 x2 x3,.int .i64 (b + 1:Nat),.int .i64 ((if loop then l + 1 else l:Nat):Nat),.int .i64 (0:Nat)] 58 (0,0),none):=by
   rw [q4 kp S2.lt S2.ne,get_put_eq rfl]
   rfl
  simp (disch:=first|exact dz|fail) only [gk3,SXB,SX,simprocAttr]
  have hbn:blkOf (.slice y1 y2 y3) ≠ some kp:=fun e=>by
   rcases q5 with h | ⟨k,h,h1,h2⟩
   ·exact S2.ne (h ▸ e)
   ·rw [h] at e;cases e;have:=S2.lt;omega
  have g4:∀ k,k < h2.size→k ≠ kp→blkOf (.slice x1 x2 x3) ≠ some k→(h3.put kp (prow (tokV e ts2) (.slice y1 y2 y3) (b + 1) (if loop then l + 1 else l) 0)).get k=h2.get k:=fun k h1 h2 h4=>by
   rw [get_put_ne h2,q4 k h1 h4,get_put_ne h2,get_put_ne h2]
  have A4:AdvB kp (.slice x1 x2 x3) h (h3.put kp (prow (tokV e ts2) (.slice y1 y2 y3) (b + 1) (if loop then l + 1 else l) 0)):=⟨by rw [sz_put];exact Nat.le_trans a2.size q3,fun k h1 h2 h4=>(g4 k (Nat.lt_of_lt_of_le h1 a2.size) h2 h4).trans (a2.get k h1 h2)⟩
  have S4:PS (h3.put kp (prow (tokV e ts2) (.slice y1 y2 y3) (b + 1) (if loop then l + 1 else l) 0)) kp e ts2 (.slice y1 y2 y3) (vs++more) (b + 1) (if loop then l + 1 else l) 0:=by
   refine ⟨get_put_eq rfl,?_,hbn,?_,fun k hk=>?_⟩
   ·rw [List.map_append]
    exact q2.mono fun k hk=>get_put_ne fun e=>hbn (by rw [hk,e])
   ·rw [sz_put];have:=S2.lt;omega
   ·rw [sz_put]
    rcases q5 with h | ⟨k',h,h1,h2⟩
    ·rw [h] at hk;have:=S2.ltb k hk;omega
    ·rw [h] at hk;cases hk;exact h2
  have B4:Bv h (.slice x1 x2 x3) (.slice y1 y2 y3):=fun k hk=>by
   rcases q5 with h | ⟨k',h,h1,h2⟩
   ·rw [h] at hk;exact .inl hk
   ·rw [h] at hk;cases hk;exact .inr (Nat.le_trans a2.size h1)
  have hlen:=hsh.2
  refine block_loop hb hl (HS hb8 hl2) L G hlt S.ltb n ts2 _ (vs++more) (.slice y1 y2 y3) (.slice none 0 0) [] (Nat.le_refl _) hsh.1 (by omega) (hv.append hm) ⟨more,rfl⟩ (by simp;omega) (by simp;omega) S4 A4 B4 .nil (fun k hk=>(nomatch hk)) (fun ss' ts3 h5 bv3 hr S5 B5 a5=>?_) (fun f h5 hr p5 a5=>?_)
  ·rw [hspec,hr]
   exact ⟨rfl,⟨bv3,S5,B5⟩,a5⟩
  ·rw [hspec,hr]
   exact ⟨rfl,p5,a5⟩
 ·rw [hw] at hspec
  simp only at hspec
  simp (disch:=first|exact dz|fail) only [SXB,SX,simprocAttr]
  refine .inr ?_
  rw [hspec]
  exact ⟨rfl,S.pan,.refl _ _ _⟩
theorem block_mid {kp n:Nat} {e:Tok} {b l:Nat} {loop:Bool} {bv mv:Value} {vs more:List Var} {ts:List Tok} {h:AH} (hb:b ≤ 8) (hl:l ≤ 2)
  (HS:b < 8→(loop=true→l < 2)→∀ m,m < n→StmtOK kp e (b + 1) (if loop then l + 1 else l) (blockG (stmtsF m) (b + 1) (if loop then l + 1 else l)) (m + 1))
  (ok:TokOK ts) (hn:ts.length ≤ n) (hv:VsOK vs) (hm:VsOK more) (hsz:vs.length + more.length + ts.length ≤ 100000) (S:PS h kp e ts bv vs b l 0) (L:LoG 10 kp bv) (G:Glob h) (hsrc:∀ h',Adv kp h h'→Src h' 2 mv (more.map encV)) :
  K29_4 (.pointer (some ⟨kp,0,none⟩)) (.bool loop) mv (.int .i64 (if loop then 1 else 0)) h (QG (BPost kp e bv vs b l h (blockG (stmtsF n) b l loop (vs++more) ts))):=by
 refine X29_4_ok ?_
 unfold X29_4
 have hlt:=S.lt
 have gk:=S.row
 unfold prow at gk
 have bad:isT ts 4 mLb=true→(8 ≤ b ∨ (loop=true∧2 ≤ l))→BPost kp e bv vs b l h (blockG (stmtsF n) b l loop (vs++more) ts) (.pan (faultV (164,headAt ts))) h:=by
  intro h1 h2
  have:blockG (stmtsF n) b l loop (vs++more) ts=.error (164,headAt ts):=by
   unfold blockG
   rw [if_pos]
   simp only [h1,Bool.true_and,Bool.or_eq_true,Bool.and_eq_true,decide_eq_true_eq]
   exact h2
  rw [this]
  exact ⟨rfl,S.pan,.refl _ _ _⟩
 obtain ⟨u,r,hts,_⟩:=ok.head
 have hpk:Ex Tryz.prog 47 [.pointer (some ⟨kp,0,none⟩)].toArray h (encT u) h:=peek_ok (ow:=true) (r:=r) (hts ▸ S)
 have hat:headAt ts=u.at_:=by rw [hts];rfl
 rw [hat] at bad
 simp (disch:=first|exact dz|fail) only [SXB,SX,simprocAttr]
 refine HC.exact (is_ok S ok.ne 4 mLb) ?_
 cases hlb:isT ts 4 mLb with
 | false =>
  simp (disch:=first|exact dz|fail) only [SXB,SX,simprocAttr]
  exact block_tail hb hl (fun h=>by rw [hlb] at h;cases h) HS ok hn hv hm hsz S L G hsrc
 | true =>
  by_cases h8:8 ≤ b
  ·have e1:(8:Int) ≤ (b:Int):=by omega
   simp (disch:=first|exact dz|fail) only [gk,e1,SXB,SX,simprocAttr]
   refine HC.exact hpk ?_
   simp (disch:=first|exact dz|fail) only [encT,SXB,SX,simprocAttr]
   refine fail_ok (k:=164) ?_
   simp (disch:=first|exact dz|fail) only [SXB,SX,simprocAttr]
   exact .inr (bad hlb (.inl h8))
  ·have e1:¬ ((8:Int) ≤ (b:Int)):=by omega
   cases loop with
   | false =>
    simp (disch:=first|exact dz|fail) only [gk,e1,SXB,SX,simprocAttr]
    exact block_tail (loop:=false) hb hl (fun h=>⟨by omega,fun h=>nomatch h⟩) HS ok hn hv hm hsz S L G hsrc
   | true =>
    by_cases h2:2 ≤ l
    ·have e2:(2:Int) ≤ (l:Int):=by omega
     simp (disch:=first|exact dz|fail) only [gk,e1,e2,SXB,SX,simprocAttr]
     refine HC.exact hpk ?_
     simp (disch:=first|exact dz|fail) only [encT,SXB,SX,simprocAttr]
     refine fail_ok (k:=164) ?_
     simp (disch:=first|exact dz|fail) only [SXB,SX,simprocAttr]
     exact .inr (bad hlb (.inr ⟨rfl,h2⟩))
    ·have e2:¬ ((2:Int) ≤ (l:Int)):=by omega
     simp (disch:=first|exact dz|fail) only [gk,e1,e2,SXB,SX,simprocAttr]
     exact block_tail (loop:=true) hb hl (fun h=>⟨by omega,fun _=>by omega⟩) HS ok hn hv hm hsz S L G hsrc
theorem block_ok {kp n:Nat} {e:Tok} {b l:Nat} (hb:b ≤ 8) (hl:l ≤ 2)
  (HS:∀ loop,b < 8→(loop=true→l < 2)→∀ m,m < n→StmtOK kp e (b + 1) (if loop then l + 1 else l) (blockG (stmtsF m) (b + 1) (if loop then l + 1 else l)) (m + 1)):BlockOK kp e b l (blockG (stmtsF n) b l) n:=by
 intro loop bv mv vs more ts h ok hn hv hm hsz S L G hsrc
 refine HC.ghOr (X29_ok (Q:=QG (BPost kp e bv vs b l h (blockG (stmtsF n) b l loop (vs++more) ts))) ?_)
 unfold X29
 cases loop with
 | false =>
  simp (disch:=first|exact dz|fail) only [SXB,SX,simprocAttr]
  exact block_mid (loop:=false) hb hl (HS false) ok hn hv hm hsz S L G hsrc
 | true =>
  simp (disch:=first|exact dz|fail) only [SXB,SX,simprocAttr]
  exact block_mid (loop:=true) hb hl (HS true) ok hn hv hm hsz S L G hsrc
end Go.Proofs.YtibigfkeaemanaaGreatDoor.L
end
