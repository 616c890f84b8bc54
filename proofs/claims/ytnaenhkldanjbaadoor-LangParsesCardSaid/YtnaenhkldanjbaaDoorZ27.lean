import Derived.Test.YtnaenhkldanjbaaDoorZ25
import Derived.Test.YtnaenhkldanjbaaDoorZ26
set_option linter.unusedVariables false
set_option linter.unusedSimpArgs false
section
namespace Go.Proofs.YtnaenhkldanjbaaDoor.L
open Go.Ab Go.Lang Go.Proofs.YtnaenhkldanjbaaDoor.X
set_option maxRecDepth 100000
variable {ow:Bool}
def VsNZ (vs:List Var):Prop:=∀ v ∈ vs,v.2 ≠ 0∧v.2 < 256
theorem VsNZ.ok {vs:List Var} (h:VsNZ vs):VsOK vs:=fun v hv=>(h v hv).2
theorem kindOf_nz {vs:List Var} (hv:VsNZ vs) {x:ByteArray} {k:Nat} (h:Lang.kindOf vs x=some k):k ≠ 0∧k < 256:=by
 unfold Lang.kindOf at h
 obtain ⟨v,hv1,rfl⟩:=Option.map_eq_some_iff.1 h
 exact hv v (List.mem_of_find?_eq_some hv1)
theorem rexpr_step {kp N n:Nat} {T:List Tok} {bv:Value} {vs:List Var} {b l c:Nat} {rd:ExprRd} (hc:c ≤ 8) (hvl:vs.length ≤ 1048576) (hv:VsNZ vs) (hl:0 < N→N=n + 1∧rd=exprF (n + 1) c vs) (HE:0 < N→c < 8→RExprOK ow kp T bv vs b l (c + 1) (exprF n (c + 1) vs) n):RExprOK ow kp T bv vs b l c rd N:=by
 intro st h i w hw S hN
 refine X17_ok ?_
 unfold X17
 have hlt:=S.lt
 obtain ⟨t,ht⟩:=S.tok
 simp (disch:=(first | exact dz | fail)) only [SXB,SX,reduceIte,Int.reduceLT,Int.reduceLE,Int.reduceToNat,Int.reduceBEq,Int.reduceBNe,Nat.reduceAdd,Nat.reduceMul,Nat.reduceSub,Nat.reduceLeDiff]
 refine HC.exact (tok_ok (S.push _ _) ht) ?_
 simp (disch:=(first | exact dz | fail)) only [encT,SXB,SX,reduceIte,Int.reduceLT,Int.reduceLE,Int.reduceToNat,Int.reduceBEq,Int.reduceBNe,Nat.reduceAdd,Nat.reduceMul,Nat.reduceSub,Nat.reduceLeDiff]
 have S1:RSg ow (((((h.push (.cells #[.string ⟨#[]⟩,.int .i64 0,.int .i64 0,.string ⟨#[]⟩,.slice none 0 0] 32 (0,0)) none).push (.cells #[.int .i64 0,.int .i64 0,.string ⟨#[]⟩] 72 (0,0)) none).put (h.size + 1) (some (.cells #[.int .i64 t.cls,.int .i64 t.at_,.string t.text] 72 (0,0),none))).push (.cells #[.string ⟨#[]⟩,.int .i64 0,.int .i64 0,.string ⟨#[]⟩,.slice none 0 0] 32 (0,0)) none).put (h.size + 1 + 1) (some (.cells #[.string ⟨#[]⟩,.int .i64 t.at_,.int .i64 0,.string ⟨#[]⟩,.slice none 0 0] 32 (0,0),none))) kp T i st bv vs b l c:=((((S.push _ _).push _ _).off (q:=h.size + 1) _ (by omega) (fun k hk=>by have:=S.ltb k hk;omega)).push _ _).off (q:=h.size + 1 + 1) _ (by omega) (fun k hk=>by have:=S.ltb k hk;omega)
 have A1:Adv kp h (((((h.push (.cells #[.string ⟨#[]⟩,.int .i64 0,.int .i64 0,.string ⟨#[]⟩,.slice none 0 0] 32 (0,0)) none).push (.cells #[.int .i64 0,.int .i64 0,.string ⟨#[]⟩] 72 (0,0)) none).put (h.size + 1) (some (.cells #[.int .i64 t.cls,.int .i64 t.at_,.string t.text] 72 (0,0),none))).push (.cells #[.string ⟨#[]⟩,.int .i64 0,.int .i64 0,.string ⟨#[]⟩,.slice none 0 0] 32 (0,0)) none).put (h.size + 1 + 1) (some (.cells #[.string ⟨#[]⟩,.int .i64 t.at_,.int .i64 0,.string ⟨#[]⟩,.slice none 0 0] 32 (0,0),none))):=by (repeat (first | exact Adv.refl _ _ | assumption | refine Adv.push ?_ _ _ | refine Adv.put ?_ _ _ (by first | exact .inl rfl | (right;first | omega | (simp only [sz_push,sz_put];omega)))))
 have g0:(((((h.push (.cells #[.string ⟨#[]⟩,.int .i64 0,.int .i64 0,.string ⟨#[]⟩,.slice none 0 0] 32 (0,0)) none).push (.cells #[.int .i64 0,.int .i64 0,.string ⟨#[]⟩] 72 (0,0)) none).put (h.size + 1) (some (.cells #[.int .i64 t.cls,.int .i64 t.at_,.string t.text] 72 (0,0),none))).push (.cells #[.string ⟨#[]⟩,.int .i64 0,.int .i64 0,.string ⟨#[]⟩,.slice none 0 0] 32 (0,0)) none).put (h.size + 1 + 1) (some (.cells #[.string ⟨#[]⟩,.int .i64 t.at_,.int .i64 0,.string ⟨#[]⟩,.slice none 0 0] 32 (0,0),none))).get h.size=some (.cells #[.string ⟨#[]⟩,.int .i64 0,.int .i64 0,.string ⟨#[]⟩,.slice none 0 0] 32 (0,0),none):=by
  rw [get_put_ne (by omega),get_push_ne (by simp;omega),get_put_ne (by omega),get_push_ne (by simp)];exact get_push_eq rfl
 have g1:(((((h.push (.cells #[.string ⟨#[]⟩,.int .i64 0,.int .i64 0,.string ⟨#[]⟩,.slice none 0 0] 32 (0,0)) none).push (.cells #[.int .i64 0,.int .i64 0,.string ⟨#[]⟩] 72 (0,0)) none).put (h.size + 1) (some (.cells #[.int .i64 t.cls,.int .i64 t.at_,.string t.text] 72 (0,0),none))).push (.cells #[.string ⟨#[]⟩,.int .i64 0,.int .i64 0,.string ⟨#[]⟩,.slice none 0 0] 32 (0,0)) none).put (h.size + 1 + 1) (some (.cells #[.string ⟨#[]⟩,.int .i64 t.at_,.int .i64 0,.string ⟨#[]⟩,.slice none 0 0] 32 (0,0),none))).get (h.size + 1)=(some (.cells #[.int .i64 t.cls,.int .i64 t.at_,.string t.text] 72 (0,0),none)):=by
  rw [get_put_ne (by omega),get_push_ne (by simp)];exact get_put_eq rfl
 have g2:(((((h.push (.cells #[.string ⟨#[]⟩,.int .i64 0,.int .i64 0,.string ⟨#[]⟩,.slice none 0 0] 32 (0,0)) none).push (.cells #[.int .i64 0,.int .i64 0,.string ⟨#[]⟩] 72 (0,0)) none).put (h.size + 1) (some (.cells #[.int .i64 t.cls,.int .i64 t.at_,.string t.text] 72 (0,0),none))).push (.cells #[.string ⟨#[]⟩,.int .i64 0,.int .i64 0,.string ⟨#[]⟩,.slice none 0 0] 32 (0,0)) none).put (h.size + 1 + 1) (some (.cells #[.string ⟨#[]⟩,.int .i64 t.at_,.int .i64 0,.string ⟨#[]⟩,.slice none 0 0] 32 (0,0),none))).get (h.size + 2)=(some (.cells #[.string ⟨#[]⟩,.int .i64 t.at_,.int .i64 0,.string ⟨#[]⟩,.slice none 0 0] 32 (0,0),none)):=get_put_eq rfl
 have z1:h.size + 3 ≤ (((((h.push (.cells #[.string ⟨#[]⟩,.int .i64 0,.int .i64 0,.string ⟨#[]⟩,.slice none 0 0] 32 (0,0)) none).push (.cells #[.int .i64 0,.int .i64 0,.string ⟨#[]⟩] 72 (0,0)) none).put (h.size + 1) (some (.cells #[.int .i64 t.cls,.int .i64 t.at_,.string t.text] 72 (0,0),none))).push (.cells #[.string ⟨#[]⟩,.int .i64 0,.int .i64 0,.string ⟨#[]⟩,.slice none 0 0] 32 (0,0)) none).put (h.size + 1 + 1) (some (.cells #[.string ⟨#[]⟩,.int .i64 t.at_,.int .i64 0,.string ⟨#[]⟩,.slice none 0 0] 32 (0,0),none))).size:=by simp
 generalize (((((h.push (.cells #[.string ⟨#[]⟩,.int .i64 0,.int .i64 0,.string ⟨#[]⟩,.slice none 0 0] 32 (0,0)) none).push (.cells #[.int .i64 0,.int .i64 0,.string ⟨#[]⟩] 72 (0,0)) none).put (h.size + 1) (some (.cells #[.int .i64 t.cls,.int .i64 t.at_,.string t.text] 72 (0,0),none))).push (.cells #[.string ⟨#[]⟩,.int .i64 0,.int .i64 0,.string ⟨#[]⟩,.slice none 0 0] 32 (0,0)) none).put (h.size + 1 + 1) (some (.cells #[.string ⟨#[]⟩,.int .i64 t.at_,.int .i64 0,.string ⟨#[]⟩,.slice none 0 0] 32 (0,0),none)))=h1 at S1 A1 g0 g1 g2 z1 ⊢
 have eat:∀ ts,st=.ok ts→∃ r,ts=t::r:=fun ts e=>by
  have hd:=S.at_
  subst e
  have hd:T.drop i=ts:=hd
  rw [← hd,List.drop_eq_getElem_cons S.ilt]
  rw [List.getElem?_eq_getElem S.ilt] at ht
  exact ⟨_,by rw [Option.some.inj ht]⟩
 cases st with
 | error f =>
  obtain ⟨hr,e⟩:=S.dead
  have en:((f.1:Int) != 0)=true:=by simpa using e
  simp (disch:=(first | exact dz | fail)) only [hr,en,SXB,SX,reduceIte,Int.reduceLT,Int.reduceLE,Int.reduceToNat,Int.reduceBEq,Int.reduceBNe,Nat.reduceAdd,Nat.reduceMul,Nat.reduceSub,Nat.reduceLeDiff]
  refine ⟨A1.put _ _ (.inr (Nat.le_refl _)),i,.mk empty t.at_ 0 empty [],0,by rw [encE,encEs];rfl,S1.off _ (by omega) (fun k hk=>by have:=S.ltb k hk;omega),fun y r e=>nomatch e⟩
 | ok ts =>
  obtain ⟨r,rfl⟩:=eat ts rfl
  have hr:=S.live
  have en:((0:Int) != 0)=false:=rfl
  have ok:=S.okl
  have hlen:=hN _ rfl
  obtain ⟨rfl,rfl⟩:=hl (by simp at hlen;omega)
  have hlb:=S.ltb
  have hne:∀ k,blkOf bv=some k→k ≠ h.size + 2:=fun k hk=>by have:=hlb k hk;omega
  have z0:∃ c0:Array Value,c0.size=5∧h1.get h.size=some (.cells c0 32 (0,0),none):=⟨_,rfl,g0⟩
  have hx0:exprS (exprF (n + 1) c vs) w (.ok (t::r))=exprW w t.at_ (exprF (n + 1) c vs (t::r)):=rfl
  rw [hx0]
  -- the end,behind what was read
  have fin:∀ (h2:AH) (i2 k:Nat) (e:Lang.Expr) (rs:ER),exprF (n + 1) c vs (t::r)=rs→RSg ow h2 kp T i2 (tailE rs) bv vs b l c→Adv kp h h2→h.size + 3 ≤ h2.size→(∀ j,j < h.size + 3→j ≠ kp→j ≠ h.size + 2→h2.get j=h1.get j)→h2.get (h.size + 2)=some (.cells (celE e).toArray 32 (0,0),none)→(∀ y r,rs=.ok (y,r)→y=(e,k)) →
    K17_26 (.pointer (some ⟨kp,0,none⟩)) (.int .u8 (w:Nat)) (.pointer (some ⟨h.size,0,none⟩)) (.pointer (some ⟨h.size + 1,0,none⟩)) (.pointer (some ⟨h.size + 2,0,none⟩)) (.int .u8 (k:Nat)) h2 (EPostR ow kp T bv vs b l c h (exprW w t.at_ (exprF (n + 1) c vs (t::r)))):=by
   intro h2 i2 k e rs hx S2 A2 z2 hf g hy
   rw [hx]
   exact rexpr_end A2 z2 hlt hlb S2 ⟨_,rfl,(hf _ (by omega) (by omega) (by omega)).trans g0⟩ ((hf _ (by omega) (by omega) (by omega)).trans g1) g hy
  by_cases hc2:t.cls=2
  ·have e1:((t.cls:Int) == 2)=true:=by simp [hc2]
   have hg:=ok.good (by omega)
   have hx:exprF (n + 1) c vs (t::r)=.ok ((.mk wNumber t.at_ (num t.text) empty [],kN),r):=by simp [exprF,hc2]
   obtain ⟨hd0,hd9,hdig⟩:=hg.num hc2
   have hds:=size_list (s:=t.text) rfl
   simp (disch:=(first | exact dz | fail)) only [hr,en,g1,g2,e1,SXB,SX,reduceIte,Int.reduceLT,Int.reduceLE,Int.reduceToNat,Int.reduceBEq,Int.reduceBNe,Nat.reduceAdd,Nat.reduceMul,Nat.reduceSub,Nat.reduceLeDiff]
   refine rnum_loop (h:=h1.put (h.size + 2) (some (.cells #[.string wNumber,.int .i64 t.at_,.int .i64 0,.string ⟨#[]⟩,.slice none 0 0] 32 (0,0),none))) (kp:=kp) (q:=h.size) (t:=t) rfl (by omega) (fun h2 hf hs g=>?_) t.text.data.toList 0 0 _ rfl (by omega) hdig (by omega) rfl (fun _ _=>rfl) rfl ((get_put_ne (by omega)).trans g1) (get_put_eq rfl)
   have S2:RSg ow h2 kp T i (.ok (t::r)) bv vs b l c:=S1.frz (sv:=.slice (some ⟨h.size + 2,0,none⟩) 0 0) (fun k hk=>(hf k fun e=>hk (by rw [e];rfl)).trans (get_put_ne fun e=>hk (by rw [e];rfl))) (by rw [hs];simp) (fun e=>by have:h.size + 2=kp:=Option.some.inj e;omega) (fun k hk e=>hne k hk (Option.some.inj e).symm)
   refine rnext_ok S2 (fun ts e=>by cases e;exact (ok.tail (by omega)).ne) fun h3 i3 S3 a3=>?_
   have hs3:=a3.size
   simp only [sz_put] at hs
   simp (disch:=(first | exact dz | fail)) only [SXB,SX,reduceIte,Int.reduceLT,Int.reduceLE,Int.reduceToNat,Int.reduceBEq,Int.reduceBNe,Nat.reduceAdd,Nat.reduceMul,Nat.reduceSub,Nat.reduceLeDiff]
   refine fin h3 i3 110 _ _ hx S3 ⟨by omega,fun k h1' h2'=>(a3.get k (by omega) h2').trans ((hf k (by omega)).trans ((get_put_ne (by omega)).trans (A1.get k h1' h2')))⟩ (by omega) (fun j h1' h2' h3'=>(a3.get j (by omega) h2').trans ((hf j h3').trans (get_put_ne h3'))) ((a3.get _ (by omega) (by omega)).trans g) (fun y r e=>by cases e;rfl)
  by_cases h3:t.cls=3
  ·have e1:((t.cls:Int) == 2)=false:=by simp [h3]
   have e2:((t.cls:Int) == 3)=true:=by simp [h3]
   have hx:exprF (n + 1) c vs (t::r)=.ok ((.mk wString t.at_ 0 t.text [],kT),r):=by simp [exprF,h3]
   simp (disch:=(first | exact dz | fail)) only [hr,en,g1,g2,e1,e2,SXB,SX,reduceIte,Int.reduceLT,Int.reduceLE,Int.reduceToNat,Int.reduceBEq,Int.reduceBNe,Nat.reduceAdd,Nat.reduceMul,Nat.reduceSub,Nat.reduceLeDiff]
   refine rnext_ok ((S1.off (q:=h.size + 2) _ (by omega) hne).off (q:=h.size + 2) _ (by omega) hne) (fun ts e=>by cases e;exact (ok.tail (by omega)).ne) fun h3 i3 S3 a3=>?_
   have hs3:=a3.size
   simp only [sz_put] at hs3
   simp (disch:=(first | exact dz | fail)) only [SXB,SX,reduceIte,Int.reduceLT,Int.reduceLE,Int.reduceToNat,Int.reduceBEq,Int.reduceBNe,Nat.reduceAdd,Nat.reduceMul,Nat.reduceSub,Nat.reduceLeDiff]
   refine fin h3 i3 116 (.mk wString t.at_ 0 t.text []) _ hx S3 (((A1.put _ _ (.inr (by omega))).put _ _ (.inr (by omega))).trans a3) (by omega) (fun j h1' h2' h3'=>(a3.get j (by simp;omega) h2').trans ((get_put_ne h3').trans (get_put_ne h3'))) ((a3.get _ (by simp;omega) (by omega)).trans (get_put_eq rfl)) (fun y r e=>by cases e;rfl)
  have e1:((t.cls:Int) == 2)=false:=by simp;omega
  have e2:((t.cls:Int) == 3)=false:=by simp;omega
  have hx:exprF (n + 1) c vs (t::r)=match fresh (t::r) with
    | .error f=>.error f
    | .ok (t,r)=>if isT r 4 mLp then callF (exprF n (c + 1) vs) c t r else match Lang.kindOf vs t.text with
     | some k=>.ok ((.mk wVar t.at_ 0 t.text [],k),r)
     | none=>.error (162,t.at_):=by
   have f2:(t.cls == 2)=false:=by simpa using hc2
   have f3:(t.cls == 3)=false:=by simpa using h3
   simp only [exprF,f2,f3,Bool.false_eq_true,if_false]
   rfl
  simp (disch:=(first | exact dz | fail)) only [hr,en,g1,g2,e1,e2,SXB,SX,reduceIte,Int.reduceLT,Int.reduceLE,Int.reduceToNat,Int.reduceBEq,Int.reduceBNe,Nat.reduceAdd,Nat.reduceMul,Nat.reduceSub,Nat.reduceLeDiff]
  refine rname_ok S1 ht fun h2 i2 S2 a2=>?_
  have hs2:=a2.size
  have A2:=A1.trans a2
  have k1:=(a2.get (h.size + 1) (by omega) (by omega)).trans g1
  have k2:=(a2.get (h.size + 2) (by omega) (by omega)).trans g2
  simp (disch:=(first | exact dz | fail)) only [SXB,SX,reduceIte,Int.reduceLT,Int.reduceLE,Int.reduceToNat,Int.reduceBEq,Int.reduceBNe,Nat.reduceAdd,Nat.reduceMul,Nat.reduceSub,Nat.reduceLeDiff]
  refine HC.exact (risT S2 4 mLp) ?_
  have hnS:nameS (.ok (t::r))=(Lang.fresh (t::r)).map (·.2):=rfl
  rw [hnS] at S2 ⊢
  cases hf:Lang.fresh (t::r) with
  | error f =>
   rw [hf] at S2 hx
   simp only at hx
   have ei:isS ((Except.error f:R (Tok × List Tok)).map (·.2)) 4 mLp=false:=rfl
   simp (disch:=(first | exact dz | fail)) only [ei,k1,SXB,SX,reduceIte,Int.reduceLT,Int.reduceLE,Int.reduceToNat,Int.reduceBEq,Int.reduceBNe,Nat.reduceAdd,Nat.reduceMul,Nat.reduceSub,Nat.reduceLeDiff]
   refine HC.exact (rkind_ok S2 hvl t.text) ?_
   generalize Lang.kindOf vs t.text=o
   have S3:=(S2.off (q:=h.size + 2) (some (.cells #[.string wVar,.int .i64 t.at_,.int .i64 0,.string ⟨#[]⟩,.slice none 0 0] 32 (0,0),none)) (by omega) hne).off (q:=h.size + 2) (some (.cells (celE (.mk wVar t.at_ 0 t.text [])).toArray 32 (0,0),none)) (by omega) hne
   by_cases ho:o.getD 0=0
   ·have e3:(((o.getD 0:Nat):Int) == 0)=true:=by simp [ho]
    simp (disch:=(first | exact dz | fail)) only [kindV,k2,k1,e3,SXB,SX,reduceIte,Int.reduceLT,Int.reduceLE,Int.reduceToNat,Int.reduceBEq,Int.reduceBNe,Nat.reduceAdd,Nat.reduceMul,Nat.reduceSub,Nat.reduceLeDiff]
    refine rfail_ok S3 162 t.at_ (by omega) fun h4 S4 a4=>?_
    have hs4:=a4.size
    simp only [sz_put] at hs4
    simp (disch:=(first | exact dz | fail)) only [SXB,SX,reduceIte,Int.reduceLT,Int.reduceLE,Int.reduceToNat,Int.reduceBEq,Int.reduceBNe,Nat.reduceAdd,Nat.reduceMul,Nat.reduceSub,Nat.reduceLeDiff]
    exact fin h4 i2 (o.getD 0) (.mk wVar t.at_ 0 t.text []) _ hx S4 (((A2.put _ _ (.inr (by omega))).put _ _ (.inr (by omega))).trans a4) (by omega) (fun j h1' h2' h3'=>(a4.get j (by simp;omega) h2').trans ((get_put_ne h3').trans ((get_put_ne h3').trans (a2.get j (by omega) h2')))) ((a4.get _ (by simp;omega) (by omega)).trans (get_put_eq rfl)) (fun y r e=>nomatch e)
   ·have e3:(((o.getD 0:Nat):Int) == 0)=false:=by simp;omega
    simp (disch:=(first | exact dz | fail)) only [kindV,k2,k1,e3,SXB,SX,reduceIte,Int.reduceLT,Int.reduceLE,Int.reduceToNat,Int.reduceBEq,Int.reduceBNe,Nat.reduceAdd,Nat.reduceMul,Nat.reduceSub,Nat.reduceLeDiff]
    exact fin _ i2 (o.getD 0) (.mk wVar t.at_ 0 t.text []) _ hx S3 ((A2.put _ _ (.inr (by omega))).put _ _ (.inr (by omega))) (by simp;omega) (fun j h1' h2' h3'=>((get_put_ne h3').trans ((get_put_ne h3').trans (a2.get j (by omega) h2')))) (get_put_eq rfl) (fun y r e=>nomatch e)
  | ok y =>
   obtain ⟨t',r'⟩:=y
   obtain ⟨heq,_,_,shr⟩:=fresh_shr hf ok
   cases heq
   rw [hf] at S2 hx
   simp only at hx
   cases hlp:isT r 4 mLp with
   | true =>
    have ei:isS ((Except.ok (t,r):R (Tok × List Tok)).map (·.2)) 4 mLp=true:=hlp
    rw [hlp] at hx
    simp only [if_true] at hx
    simp (disch:=(first | exact dz | fail)) only [ei,k1,SXB,SX,reduceIte,Int.reduceLT,Int.reduceLE,Int.reduceToNat,Int.reduceBEq,Int.reduceBNe,Nat.reduceAdd,Nat.reduceMul,Nat.reduceSub,Nat.reduceLeDiff]
    have hsh:=shr.2
    refine HC.mono (rcall_ok (t:=t) (n:=n) (rd:=exprF n (c + 1) vs) S2 hlp hc (HE (by omega)) (exprF_ok n (c + 1) hv.ok) (by have:r.length + 1 ≤ n + 1:=hlen;show r.length ≤ n + 1;omega)) fun res h3 hp=>?_
    obtain ⟨a3,i3,es,k,rfl,S3,hy⟩:=hp
    have hs3:=a3.size
    have A3:=A2.trans a3
    have v1:=(a3.get _ (by omega) (by omega)).trans k1
    have v2:=(a3.get _ (by omega) (by omega)).trans k2
    simp (disch:=(first | exact dz | fail)) only [v1,v2,SXB,SX,reduceIte,Int.reduceLT,Int.reduceLE,Int.reduceToNat,Int.reduceBEq,Int.reduceBNe,Nat.reduceAdd,Nat.reduceMul,Nat.reduceSub,Nat.reduceLeDiff]
    have S4:=(S3.off (q:=h.size + 2) (some (.cells #[.string ⟨#[]⟩,.int .i64 t.at_,.int .i64 0,.string ⟨#[]⟩,slV (encEs es)] 32 (0,0),none)) (by omega) hne).off (q:=h.size + 2) (some (.cells (celE (.mk t.text t.at_ 0 empty es)).toArray 32 (0,0),none)) (by omega) hne
    exact fin _ i3 k (.mk t.text t.at_ 0 empty es) _ hx S4 ((A3.put _ _ (.inr (by omega))).put _ _ (.inr (by omega))) (by simp;omega) (fun j h1' h2' h3'=>((get_put_ne h3').trans ((get_put_ne h3').trans ((a3.get j (by omega) h2').trans (a2.get j (by omega) h2'))))) (get_put_eq rfl) hy
   | false =>
    have ei:isS ((Except.ok (t,r):R (Tok × List Tok)).map (·.2)) 4 mLp=false:=hlp
    rw [hlp] at hx
    simp only [Bool.false_eq_true,if_false] at hx
    simp (disch:=(first | exact dz | fail)) only [ei,k1,SXB,SX,reduceIte,Int.reduceLT,Int.reduceLE,Int.reduceToNat,Int.reduceBEq,Int.reduceBNe,Nat.reduceAdd,Nat.reduceMul,Nat.reduceSub,Nat.reduceLeDiff]
    refine HC.exact (rkind_ok S2 hvl t.text) ?_
    have S3:=(S2.off (q:=h.size + 2) (some (.cells #[.string wVar,.int .i64 t.at_,.int .i64 0,.string ⟨#[]⟩,.slice none 0 0] 32 (0,0),none)) (by omega) hne).off (q:=h.size + 2) (some (.cells (celE (.mk wVar t.at_ 0 t.text [])).toArray 32 (0,0),none)) (by omega) hne
    cases ho:Lang.kindOf vs t.text with
    | none =>
     rw [ho] at hx
     have e3:((((none:Option Nat).getD 0:Nat):Int) == 0)=true:=rfl
     simp (disch:=(first | exact dz | fail)) only [kindV,k2,k1,e3,SXB,SX,reduceIte,Int.reduceLT,Int.reduceLE,Int.reduceToNat,Int.reduceBEq,Int.reduceBNe,Nat.reduceAdd,Nat.reduceMul,Nat.reduceSub,Nat.reduceLeDiff]
     refine rfail_ok S3 162 t.at_ (by omega) fun h4 S4 a4=>?_
     have hs4:=a4.size
     simp only [sz_put] at hs4
     simp (disch:=(first | exact dz | fail)) only [SXB,SX,reduceIte,Int.reduceLT,Int.reduceLE,Int.reduceToNat,Int.reduceBEq,Int.reduceBNe,Nat.reduceAdd,Nat.reduceMul,Nat.reduceSub,Nat.reduceLeDiff]
     exact fin h4 i2 0 (.mk wVar t.at_ 0 t.text []) _ hx S4 (((A2.put _ _ (.inr (by omega))).put _ _ (.inr (by omega))).trans a4) (by omega) (fun j h1' h2' h3'=>(a4.get j (by simp;omega) h2').trans ((get_put_ne h3').trans ((get_put_ne h3').trans (a2.get j (by omega) h2')))) ((a4.get _ (by simp;omega) (by omega)).trans (get_put_eq rfl)) (fun y r e=>nomatch e)
    | some k =>
     rw [ho] at hx
     have hk:=kindOf_nz hv ho
     have e3:((((some k).getD 0:Nat):Int) == 0)=false:=by simp;omega
     simp (disch:=(first | exact dz | fail)) only [kindV,k2,k1,e3,SXB,SX,reduceIte,Int.reduceLT,Int.reduceLE,Int.reduceToNat,Int.reduceBEq,Int.reduceBNe,Nat.reduceAdd,Nat.reduceMul,Nat.reduceSub,Nat.reduceLeDiff]
     exact fin _ i2 k (.mk wVar t.at_ 0 t.text []) _ hx S3 ((A2.put _ _ (.inr (by omega))).put _ _ (.inr (by omega))) (by simp;omega) (fun j h1' h2' h3'=>((get_put_ne h3').trans ((get_put_ne h3').trans (a2.get j (by omega) h2')))) (get_put_eq rfl) (fun y r e=>by cases e;rfl)
theorem rexpr_ok {kp:Nat} {T:List Tok} {bv:Value} {vs:List Var} {b l:Nat} (hvl:vs.length ≤ 1048576) (hv:VsNZ vs):∀ (n c:Nat),c ≤ 8→RExprOK ow kp T bv vs b l c (exprF n c vs) n:=by
 intro n
 induction n with
 | zero=>intro c hc;exact rexpr_step (n:=0) hc hvl hv (fun h=>absurd h (by omega)) (fun h=>absurd h (by omega))
 | succ n ih=>intro c hc;exact rexpr_step hc hvl hv (fun _=>⟨rfl,rfl⟩) fun _ h=>ih (c + 1) (by omega)
end Go.Proofs.YtnaenhkldanjbaaDoor.L
end
section
namespace Go.Proofs.YtnaenhkldanjbaaDoor.L
open Go.Ab Go.Lang Go.Proofs.YtnaenhkldanjbaaDoor.X
set_option maxRecDepth 100000
def Bv (h:AH) (bv bv':Value):Prop:=∀ k,blkOf bv' = some k→blkOf bv=some k ∨ h.size ≤ k
theorem Bv.refl (h:AH) (bv:Value):Bv h bv bv:=fun _ h=>.inl h
theorem Bv.trans {h h1:AH} {a b c:Value} (x:Bv h a b) (y:Bv h1 b c) (hs:h.size ≤ h1.size):Bv h a c:=fun k hk=>by
 rcases y k hk with h | h
 ·exact x k h
 ·exact .inr (Nat.le_trans hs h)
def BPost (kp:Nat) (e:Tok) (bv:Value) (vs:List Var) (b l:Nat) (h:AH) (rs:R (List Lang.Stmt × List Tok)) (r:Res) (h':AH):Prop:=match rs with
 | .ok (ss,ts')=>r=.ret (slV (encSs ss))∧(∃ bv',PS h' kp e ts' bv' vs b l 0∧Bv h bv bv')∧AdvB kp bv h h'
 | .error f=>r=.pan (faultV f)∧PanS h' kp∧AdvB kp bv h h'
def SPost (kp:Nat) (e:Tok) (bv:Value) (b l:Nat) (h:AH) (rs:R ((Lang.Stmt × List Var) × List Tok)) (r:Res) (h':AH):Prop:=match rs with
 | .ok ((s,vs'),ts')=>r=.ret (encS s)∧(∃ bv',PS h' kp e ts' bv' vs' b l 0∧Bv h bv bv')∧AdvB kp bv h h'
 | .error f=>r=.pan (faultV f)∧PanS h' kp∧AdvB kp bv h h'
structure LoG (gN kp:Nat) (bv:Value):Prop where
 kp:gN ≤ kp
 bv:∀ k,blkOf bv=some k→gN ≤ k
def BlockOK (kp:Nat) (e:Tok) (b l:Nat) (blk:BlockRd) (M:Nat):Prop:=∀ (loop:Bool) (bv mv:Value) (vs more:List Var) (ts:List Tok) (h:AH),TokOK ts→ts.length ≤ M→VsOK vs→VsOK more→vs.length + more.length + ts.length ≤ 100000→PS h kp e ts bv vs b l 0→LoG 2 kp bv→Glob h →
 (∀ h',Adv kp h h'→Src h' 2 mv (more.map encV))→HC Tryd.prog 25 [.pointer (some ⟨kp,0,none⟩),.bool loop,mv].toArray h (BPost kp e bv vs b l h (blk loop (vs++more) ts))
def StmtOK (kp:Nat) (e:Tok) (b l:Nat) (blk:BlockRd) (M:Nat):Prop:=∀ (bv:Value) (vs:List Var) (ts:List Tok) (h:AH),TokOK ts→ts.length ≤ M→VsOK vs→vs.length + ts.length ≤ 100000→PS h kp e ts bv vs b l 0→LoG 2 kp bv→Glob h →
 HC Tryd.prog 38 [.pointer (some ⟨kp,0,none⟩)].toArray h (SPost kp e bv b l h (stmtF blk vs ts))
theorem Glob.advB {kp:Nat} {bv:Value} {h h':AH} (G:Glob h) (a:AdvB kp bv h h') (L:LoG 2 kp bv):Glob h':=by
 obtain ⟨⟨m,e,fz,s,h1⟩,⟨e2,fz2,s2,h2⟩,h3⟩:=G
 have hk:=L.kp
 exact ⟨⟨m,e,fz,s,(a.get _ (by omega) (by omega) (fun e=>by have:=L.bv _ e;omega)).trans h1⟩,⟨e2,fz2,s2,(a.get _ (by omega) (by omega) (fun e=>by have:=L.bv _ e;omega)).trans h2⟩,Nat.le_trans h3 a.size⟩
theorem LoG.of_bv {h:AH} {kp:Nat} {bv bv':Value} (L:LoG 2 kp bv) (B:Bv h bv bv') (G:Glob h):LoG 2 kp bv':=⟨L.kp,fun k hk=>by
 rcases B k hk with h | h
 ·exact L.bv k h
 ·exact Nat.le_trans G.size h⟩
theorem AdvB.put {kp:Nat} {bv:Value} {h h':AH} (x:AdvB kp bv h h') (j:Nat) (v:Option (Obj × Option Nat)) (hj:j=kp ∨ h.size ≤ j):AdvB kp bv h (h'.put j v):=⟨by simpa using x.size,fun k hk hn hb=>by rw [get_put_ne (by rcases hj with rfl | hj <;> omega)];exact x.get k hk hn hb⟩
theorem AdvB.push {kp:Nat} {bv:Value} {h h':AH} (x:AdvB kp bv h h') (o:Obj) (s:Option Nat):AdvB kp bv h (h'.push o s):=⟨by have:=x.size;simp;omega,fun k hk hn hb=>by rw [get_push_ne (by have:=x.size;omega)];exact x.get k hk hn hb⟩
theorem block_loop {h:AH} {kp n:Nat} {e:Tok} {bv:Value} {vs:List Var} {b l:Nat} {loop:Bool} {Q:RQ} (hb:b ≤ 8) (hl:l ≤ 2) (HS:∀ m,m < n→StmtOK kp e (b + 1) (if loop then l + 1 else l) (blockG (stmtsF m) (b + 1) (if loop then l + 1 else l)) (m + 1))
  (L:LoG 2 kp bv) (G:Glob h) (hlt:kp < h.size) (hltb:∀ k,blkOf bv=some k→k < h.size) :
  ∀ (m:Nat) (ts1:List Tok) (h1:AH) (vs1:List Var) (bv1 sv:Value) (ss:List Lang.Stmt),m ≤ n→TokOK ts1→ts1.length ≤ m→VsOK vs1→(∃ ex,vs1=vs++ex)→vs1.length + ts1.length ≤ 100000→ss.length + ts1.length ≤ 100000 →
   PS h1 kp e ts1 bv1 vs1 (b + 1) (if loop then l + 1 else l) 0→AdvB kp bv h h1→Bv h bv bv1→Hld 76 14 h1 h.size sv (encSs ss)→(∀ k,blkOf sv=some k→k < h1.size∧blkOf bv1 ≠ some k) →
   (∀ ss' ts3 h3 bv3,stmtsF m (b + 1) (if loop then l + 1 else l) vs1 ts1=.ok (ss',ts3)→PS h3 kp e ts3 bv3 vs b l 0→Bv h bv bv3→AdvB kp bv h h3→Q (.ret (slV (encSs (ss++ss')))) h3) →
   (∀ f h3,stmtsF m (b + 1) (if loop then l + 1 else l) vs1 ts1=.error f→PanS h3 kp→AdvB kp bv h h3→Q (.pan (faultV f)) h3) →
   H25_12 (.pointer (some ⟨kp,0,none⟩)) (.int .i64 (if loop then 1 else 0)) (.int .i64 vs.length) sv h1 (QG Q):=by
 intro m
 induction m with
 | zero=>intro ts1 h1 vs1 bv1 sv ss _ ok hn;have:=ok.pos;omega
 | succ m ih =>
  intro ts1 h1 vs1 bv1 sv ss hm ok hn hv hex hsz hsz2 S A B O sep hok herr
  have hkg:=L.kp
  refine X25_12_ok ?_
  unfold X25_12
  simp (disch:=(first | exact dz | fail)) only [SXB,SX,reduceIte,Int.reduceLT,Int.reduceLE,Int.reduceToNat,Int.reduceBEq,Int.reduceBNe,Nat.reduceAdd,Nat.reduceMul,Nat.reduceSub,Nat.reduceLeDiff]
  refine HC.exact (is_ok S ok.ne 4 mRb) ?_
  have hspec:stmtsF (m + 1) (b + 1) (if loop then l + 1 else l) vs1 ts1=if isT ts1 4 mRb then .ok ([],ts1.tail) else match stmtF (blockG (stmtsF m) (b + 1) (if loop then l + 1 else l)) vs1 ts1 with
    | .error f=>.error f
    | .ok ((s,vs),ts)=>match stmtsF m (b + 1) (if loop then l + 1 else l) vs ts with
     | .error f=>.error f
     | .ok (ss,ts)=>.ok (s::ss,ts):=rfl
  cases hrb:isT ts1 4 mRb with
  | true =>
   rw [hrb] at hspec
   simp only [if_true] at hspec
   obtain ⟨t,r,hts,_⟩:=isT_cls hrb
   simp (disch:=(first | exact dz | fail)) only [SXB,SX,reduceIte,Int.reduceLT,Int.reduceLE,Int.reduceToNat,Int.reduceBEq,Int.reduceBNe,Nat.reduceAdd,Nat.reduceMul,Nat.reduceSub,Nat.reduceLeDiff]
   refine take_ok (t:=t) (r:=r) (hts ▸ S) fun h2 S2 a2=>?_
   obtain ⟨ex,hex⟩:=hex
   have hle:vs.length ≤ vs1.length:=by rw [hex];simp
   obtain ⟨d,hd,hds⟩:∃ d,(Tryd.prog).info? 84=some d∧d.size=2:=⟨_,rfl,by kernel_rfl⟩
   obtain ⟨bv2,hcut,O2,hblk⟩:=S2.own.cut (P:=Tryd.prog) (t:=53) (el:=84) (by kernel_rfl) hd hds (encVs_size vs1) (k:=vs.length) (by simpa using hle)
   have etake:(vs1.map encV).take vs.length=vs.map encV:=by rw [← List.map_take,hex];simp
   rw [etake] at O2
   have gk:=S2.row
   unfold prow at gk
   obtain ⟨x1,x2,x3,rfl⟩:=O2.isSl
   have ew:IntKind.i64.wrap (((b + 1:Nat):Int) - 1)=(b:Int):=by rw [wrap64 (by omega) (by omega)];omega
   have el:IntKind.i64.wrap ((((if loop then l + 1 else l):Nat):Int) - (if loop then 1 else 0))=(l:Int):=by
    cases loop
    ·simp only [Bool.false_eq_true,if_false];rw [wrap64 (by omega) (by omega)];omega
    ·simp only [if_true];rw [wrap64 (by omega) (by omega)];omega
   simp (disch:=(first | exact dz | fail)) only [gk,hcut,ew,el,SXB,SX,reduceIte,Int.reduceLT,Int.reduceLE,Int.reduceToNat,Int.reduceBEq,Int.reduceBNe,Nat.reduceAdd,Nat.reduceMul,Nat.reduceSub,Nat.reduceLeDiff]
   have hkey:=O.key
   have hks:∀ k,blkOf sv=some k→k ≠ kp:=fun k hk e=>by have:=hkey k hk;omega
   have H:=O.mono (h':=((h2.put kp (prow (tokV e r) (.slice x1 x2 x3) (b + 1) (if loop then l + 1 else l) 0)).put kp (prow (tokV e r) (.slice x1 x2 x3) b (if loop then l + 1 else l) 0)).put kp (prow (tokV e r) (.slice x1 x2 x3) b l 0)) fun k hk=>by
    rw [get_put_ne (hks k hk),get_put_ne (hks k hk),get_put_ne (hks k hk)]
    exact a2.get k (sep k hk).1 (hks k hk)
   obtain ⟨h3,gu,gf,gs⟩:=H.turn (P:=Tryd.prog) (by omega) (encSs_size ss)
   have gk3:∀ k,blkOf sv ≠ some k→k ≠ kp→h3.get k=h2.get k:=fun k h1 h2=>by rw [gf k h1,get_put_ne h2,get_put_ne h2,get_put_ne h2]
   have gkp:h3.get kp=prow (tokV e r) (.slice x1 x2 x3) b l 0:=by rw [gf kp (fun e=>hks kp e rfl),get_put_eq rfl]
   have s3:h3.size=h2.size:=by rw [gs];simp
   have A3:AdvB kp bv h h3:=⟨by rw [s3];exact Nat.le_trans A.size a2.size,fun k h1 h2 h4=>by
    rw [gk3 k (fun e=>by have:=hkey k e;omega) h2,a2.get k (by have:=A.size;omega) h2]
    exact A.get k h1 h2 h4⟩
   refine .inl ⟨_,slV (encSs ss),h3,rfl,Gh.turn gu .here,?_⟩
   have hfin:=hok [] r h3 (.slice x1 x2 x3) (by rw [hspec,hts];rfl) ⟨gkp,O2.mono fun k hk=>?_,?_,?_,?_⟩ ?_ A3
   ·rw [List.append_nil] at hfin;exact hfin
   ·rw [hblk] at hk
    exact gk3 k (fun e=>(sep k e).2 hk) fun e=>S2.ne (by rw [hk,e])
   ·rw [hblk];exact S2.ne
   ·rw [s3];exact S2.lt
   ·intro k hk
    rw [hblk] at hk
    rw [s3];exact S2.ltb k hk
   ·intro k hk
    rw [hblk] at hk
    exact B k hk
  | false =>
   rw [hrb] at hspec
   simp only [Bool.false_eq_true,if_false] at hspec
   simp (disch:=(first | exact dz | fail)) only [SXB,SX,reduceIte,Int.reduceLT,Int.reduceLE,Int.reduceToNat,Int.reduceBEq,Int.reduceBNe,Nat.reduceAdd,Nat.reduceMul,Nat.reduceSub,Nat.reduceLeDiff]
   refine HC.mono (HS m (by omega) bv1 vs1 ts1 h1 ok hn hv hsz S (L.of_bv B G) (G.advB A L)) fun r h2 hp=>?_
   cases hst:stmtF (blockG (stmtsF m) (b + 1) (if loop then l + 1 else l)) vs1 ts1 with
   | error f =>
    rw [hst] at hp hspec
    obtain ⟨rfl,p,a⟩:=hp
    simp (disch:=(first | exact dz | fail)) only [SXB,SX,reduceIte,Int.reduceLT,Int.reduceLE,Int.reduceToNat,Int.reduceBEq,Int.reduceBNe,Nat.reduceAdd,Nat.reduceMul,Nat.reduceSub,Nat.reduceLeDiff]
    exact .inr (herr f h2 hspec p (A.trans a B))
   | ok y =>
    obtain ⟨⟨s,vs2⟩,ts2⟩:=y
    rw [hst] at hp hspec
    simp only at hspec
    obtain ⟨rfl,⟨bv2,S2,B2⟩,a⟩:=hp
    obtain ⟨sh,hv2,ex2,hex2,hex3⟩:=stmtF_shr (blockG_ok m _ _) hv ok hst
    have A2:=A.trans a B
    have B2':=B.trans B2 A.size
    have O2:Hld 76 14 h2 h.size sv (encSs ss):=O.mono fun k hk=>by
     have:=sep k hk
     have:=O.key k hk
     exact a.get k (sep k hk).1 (by omega) (sep k hk).2
    have sep2:∀ k,blkOf sv=some k→k < h2.size∧blkOf bv2 ≠ some k:=fun k hk=>⟨Nat.lt_of_lt_of_le (sep k hk).1 a.size,fun e=>by
     rcases B2 k e with h | h
     ·exact (sep k hk).2 h
     ·have:=(sep k hk).1;omega⟩
    simp (disch:=(first | exact dz | fail)) only [SXB,SX,reduceIte,Int.reduceLT,Int.reduceLE,Int.reduceToNat,Int.reduceBEq,Int.reduceBNe,Nat.reduceAdd,Nat.reduceMul,Nat.reduceSub,Nat.reduceLeDiff]
    have hsz14:(encS s).cells.size=14:=by rw [encS_cells];simp [celS_len]
    rw [bdF_one hsz14 rfl]
    simp (disch:=(first | exact dz | fail)) only [SXB,SX,reduceIte,Int.reduceLT,Int.reduceLE,Int.reduceToNat,Int.reduceBEq,Int.reduceBNe,Nat.reduceAdd,Nat.reduceMul,Nat.reduceSub,Nat.reduceLeDiff]
    obtain ⟨s',h3,q1,q2,q3,q4,q5⟩:=O2.append1 (v:=encS s) (c:=(encS s).cells) (bytes:=224) (zero:=encS (.mk empty empty .zero .zero [] [])) rfl (fun k hk=>(sep2 k hk).1) (A2.size) (encSs_size ss) hsz14
     (fun y hy=>by rw [encS_cells] at hy;exact celS_one s y (by simpa using hy)) (by omega) (by omega) (by omega) (by rw [encS_cells];simp [celS_len]) (by rw [encSs_eq,List.length_map];omega)
    refine bq_of q1 ?_
    have hkey:=O2.key
    have gf:∀ k,k < h2.size→blkOf sv ≠ some k→h3.get k=h2.get k:=q4
    have S3:PS h3 kp e ts2 bv2 vs2 (b + 1) (if loop then l + 1 else l) 0:=⟨(gf kp S2.lt fun e=>by have:=hkey _ e;omega).trans S2.row,S2.own.mono fun k hk=>gf k (S2.ltb k hk) fun e=>(sep2 k e).2 hk,S2.ne,Nat.lt_of_lt_of_le S2.lt q3,fun k hk=>Nat.lt_of_lt_of_le (S2.ltb k hk) q3⟩
    have A3:AdvB kp bv h h3:=⟨Nat.le_trans A2.size q3,fun k h1 h2 h4=>(gf k (Nat.lt_of_lt_of_le h1 A2.size) fun e=>by have:=hkey k e;omega).trans (A2.get k h1 h2 h4)⟩
    obtain ⟨ex,hex⟩:=hex
    have hlen:=sh.2
    have hvl:vs2.length + ts2.length ≤ 100000:=by
     rw [hex2,List.length_append];omega
    refine ih ts2 h3 vs2 bv2 s' (ss++[s]) (by omega) sh.1 (by omega) hv2 ⟨ex++ex2,by rw [hex2,hex];simp⟩ hvl (by simp;omega) S3 A3 B2' (by rw [encSs_eq,List.map_append,← encSs_eq];exact q2) (fun k hk=>?_) (fun ss' ts3 h4 bv3 hr S4 B4 a4=>?_) (fun f h4 hr p4 a4=>?_)
    ·rcases q5 with e1 | ⟨k',e1,e2,e3⟩
     ·rw [e1] at hk
      exact ⟨Nat.lt_of_lt_of_le (sep2 k hk).1 q3,(sep2 k hk).2⟩
     ·rw [e1] at hk;cases hk
      exact ⟨e3,fun e=>by have:=S2.ltb _ e;omega⟩
    ·have:=hok (s::ss') ts3 h4 bv3 (by rw [hspec,hr]) S4 B4 a4
     simpa using this
    ·exact herr f h4 (by rw [hspec,hr]) p4 a4
end Go.Proofs.YtnaenhkldanjbaaDoor.L
end
