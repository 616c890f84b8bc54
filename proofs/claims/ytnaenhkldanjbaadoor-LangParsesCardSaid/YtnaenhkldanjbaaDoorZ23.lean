import Derived.Test.YtnaenhkldanjbaaDoorZ21
import Derived.Test.YtnaenhkldanjbaaDoorZ22
set_option linter.unusedVariables false
set_option linter.unusedSimpArgs false
section
namespace Go.Proofs.YtnaenhkldanjbaaDoor.L
open Go.Ab Go.Lang Go.Proofs.YtnaenhkldanjbaaDoor.X
set_option maxRecDepth 100000
variable {ow:Bool}
theorem pt_fa1 {h:AH} {p:Value} {c:Array Value} {i:Nat} {a:Value} (x:Pt h p c) (hi:c[i]?=some a):∃ q,fa i 1 p=some q∧ld1 h q=some a:=by
 have hlt:i < c.size:=(Array.getElem?_eq_some_iff.1 hi).1
 cases x with
 | fp c =>
  refine ⟨_,by rw [fa_fp,if_pos (by omega)],?_⟩
  rw [ld1_fp,Array.getElem?_extract,if_pos (by omega)]
  exact hi
 | ptr hk hg hc =>
  refine ⟨_,fa_ptr,?_⟩
  rw [ld1_ptr,hg,rowC_cells,Option.bind_some,← hi,Array.getElem?_extract]
  simp at hlt
  rw [if_pos (by omega)]
def kindV (o:Option Nat):Value:=.int .u8 (o.getD 0:Nat)
theorem rkind_loop {kp:Nat} {T:List Tok} {i b l c:Nat} {st:LS} {bv:Value} {vs:List Var} {x:ByteArray} {h:AH} (S:RSg ow h kp T i st bv vs b l c) (hl:vs.length ≤ 1048576):∀ (r:List Var) (j:Nat),vs.drop j=r→j ≤ vs.length →
  H34_2 (.pointer (some ⟨kp,0,none⟩)) (.string x) (.int .i64 j) h (fun y h'=>y=.ret (kindV (Lang.kindOf r x))∧h' = h):=by
 intro r
 have hr:=S.any
 have R:=S.own.rd (encVs_size vs) S.ltb
 have e1:=S.own.len
 rw [List.length_map] at e1
 induction r with
 | nil =>
  intro j hd hi
  have:=drop_nil hd
  refine X34_2_ok ?_
  unfold X34_2
  have e:¬ ((j:Int) < vs.length):=by omega
  simp (disch:=(first | exact dz | fail)) only [hr,e1,e,SXB,SX,reduceIte,Int.reduceLT,Int.reduceLE,Int.reduceToNat,Int.reduceBEq,Int.reduceBNe,Nat.reduceAdd,Nat.reduceMul,Nat.reduceSub,Nat.reduceLeDiff]
  exact rfl
 | cons v r ih =>
  intro j hd hi
  obtain ⟨h1,h2,h3⟩:=drop_cons hd
  refine X34_2_ok ?_
  unfold X34_2
  have e:(j:Int) < vs.length:=by omega
  obtain ⟨p,q1,q2,q3⟩:=R.el j (encV v) (by simp [h1])
  have w1:IntKind.i64.wrap ((j:Int) + 1)=((j + 1:Nat):Int):=by rw [wrap64 (by omega) (by omega)];omega
  obtain ⟨f0,f00,g0⟩:=pt_fa1 q2 (i:=0) (a:=.string v.1) rfl
  obtain ⟨f1,f11,g1⟩:=pt_fa1 q2 (i:=1) (a:=.int .u8 v.2) rfl
  simp (disch:=(first | exact dz | fail)) only [hr,e1,e,q1,f00,f11,g0,g1,SXB,SX,reduceIte,Int.reduceLT,Int.reduceLE,Int.reduceToNat,Int.reduceBEq,Int.reduceBNe,Nat.reduceAdd,Nat.reduceMul,Nat.reduceSub,Nat.reduceLeDiff]
  rw [kindOf_cons]
  unfold eqT
  cases he:v.1.toList == x.toList with
  | true =>
   simp (disch:=(first | exact dz | fail)) only [SXB,SX,reduceIte,Int.reduceLT,Int.reduceLE,Int.reduceToNat,Int.reduceBEq,Int.reduceBNe,Nat.reduceAdd,Nat.reduceMul,Nat.reduceSub,Nat.reduceLeDiff]
   exact rfl
  | false =>
   simp (disch:=(first | exact dz | fail)) only [w1,SXB,SX,reduceIte,Int.reduceLT,Int.reduceLE,Int.reduceToNat,Int.reduceBEq,Int.reduceBNe,Nat.reduceAdd,Nat.reduceMul,Nat.reduceSub,Nat.reduceLeDiff]
   exact ih (j + 1) h2 (by omega)
theorem rkind_ok {kp:Nat} {T:List Tok} {i b l c:Nat} {st:LS} {bv:Value} {vs:List Var} {h:AH} (S:RSg ow h kp T i st bv vs b l c) (hl:vs.length ≤ 1048576) (x:ByteArray) :
  Ex Tryd.prog 34 [.pointer (some ⟨kp,0,none⟩),.string x].toArray h (kindV (Lang.kindOf vs x)) h:=by
 refine X34_ok ?_
 unfold X34
 exact rkind_loop S hl vs 0 rfl (by omega)
def wordsV:List Value:=words.map .string
theorem words_len:words.length=12:=rfl
theorem reserved_loop {k:Nat} {h h1:AH} {e:TypeId} {t:ByteArray} (hk:h.size ≤ k) (hg:h1.get k=some (.cells wordsV.toArray e (0,0),none)) (K:Kp h.size h h1):∀ (r:List ByteArray) (j:Nat),words.drop j=r→j ≤ words.length →
  H41_3 (.string t) (.slice (some ⟨k,0,none⟩) 12 12) (.int .i64 j) h1 (fun y h'=>y=.ret (.bool (r.any fun w=>eqT w t))∧Kp h.size h h'):=by
 intro r
 induction r with
 | nil =>
  intro j hd hi
  have hj:=drop_nil hd
  rw [words_len] at hj
  refine X41_3_ok ?_
  unfold X41_3
  have e:¬ ((j:Int) < ((12:Nat):Int)):=by omega
  simp (disch:=(first | exact dz | fail)) only [e,SXB,SX,reduceIte,Int.reduceLT,Int.reduceLE,Int.reduceToNat,Int.reduceBEq,Int.reduceBNe,Nat.reduceAdd,Nat.reduceMul,Nat.reduceSub,Nat.reduceLeDiff]
  exact ⟨rfl,K⟩
 | cons w r ih =>
  intro j hd hi
  obtain ⟨h1,h2,h3⟩:=drop_cons hd
  rw [words_len] at h3
  refine X41_3_ok ?_
  unfold X41_3
  have e:(j:Int) < ((12:Nat):Int):=by omega
  have w1:IntKind.i64.wrap ((j:Int) + 1)=((j + 1:Nat):Int):=by rw [wrap64 (by omega) (by omega)];omega
  have g:wordsV.toArray[j]?=some (.string w):=by simp [wordsV,h1]
  have e2:(0 ≤ (j:Int)∧(j:Int) < ((12:Nat):Int)):=by omega
  simp (disch:=(first | exact dz | fail)) only [e,e2,hg,g,Nat.mul_one,SXB,SX,reduceIte,Int.reduceLT,Int.reduceLE,Int.reduceToNat,Int.reduceBEq,Int.reduceBNe,Nat.reduceAdd,Nat.reduceMul,Nat.reduceSub,Nat.reduceLeDiff]
  rw [List.any_cons]
  cases he:w.toList == t.toList with
  | true =>
   have:eqT w t=true:=he
   simp (disch:=(first | exact dz | fail)) only [this,SXB,SX,reduceIte,Int.reduceLT,Int.reduceLE,Int.reduceToNat,Int.reduceBEq,Int.reduceBNe,Nat.reduceAdd,Nat.reduceMul,Nat.reduceSub,Nat.reduceLeDiff]
   exact K
  | false =>
   have:eqT w t=false:=he
   simp (disch:=(first | exact dz | fail)) only [this,w1,SXB,SX,reduceIte,Int.reduceLT,Int.reduceLE,Int.reduceToNat,Int.reduceBEq,Int.reduceBNe,Nat.reduceAdd,Nat.reduceMul,Nat.reduceSub,Nat.reduceLeDiff]
   exact ih (j + 1) h2 (by rw [words_len];omega)
theorem reserved_ok {h:AH} (t:ByteArray):Ex Tryd.prog 41 [.string t].toArray h (.bool (isWord t)) h:=by
 refine Ex.pureF (.bool _) (X41_ok ?_)
 unfold X41
 have e:bs 9 #[(Value.string (ByteArray.mk #[])),(Value.string (ByteArray.mk #[])),(Value.string (ByteArray.mk #[])),(Value.string (ByteArray.mk #[])),(Value.string (ByteArray.mk #[])),(Value.string (ByteArray.mk #[])),(Value.string (ByteArray.mk #[])),(Value.string (ByteArray.mk #[])),(Value.string (ByteArray.mk #[])),(Value.string (ByteArray.mk #[])),(Value.string (ByteArray.mk #[])),(Value.string (ByteArray.mk #[]))] 12 h [(0,1,(Value.string (ByteArray.mk #[109,97,112]))),(1,1,(Value.string (ByteArray.mk #[99,111,109,98,105,110,101]))),(2,1,(Value.string (ByteArray.mk #[114,101,100,117,99,101]))),(3,1,(Value.string (ByteArray.mk #[112,97,114,116]))),(4,1,(Value.string (ByteArray.mk #[101,109,105,116]))),(5,1,(Value.string (ByteArray.mk #[108,101,116]))),(6,1,(Value.string (ByteArray.mk #[105,102]))),(7,1,(Value.string (ByteArray.mk #[101,108,115,101]))),(8,1,(Value.string (ByteArray.mk #[101,97,99,104]))),(9,1,(Value.string (ByteArray.mk #[105,110]))),(10,1,(Value.string (ByteArray.mk #[98,121]))),(11,1,(Value.string (ByteArray.mk #[102,111,114])))]=some (.slice (some ⟨h.size,0,none⟩) 12 12,h.push (.cells wordsV.toArray 9 (0,0)) none):=by kernel_rfl
 refine bq_of e ?_
 exact reserved_loop (Nat.le_refl _) (get_push_eq rfl) (by (repeat (first | exact Kp.refl _ _ | assumption | refine Kp.push ?_ _ _ (by first | omega | (simp only [sz_push,sz_put];omega)) | refine Kp.put ?_ _ _ (by first | omega | (simp only [sz_push,sz_put];omega))))) words 0 rfl (by omega)
def nameS (st:LS):LS:=st.bind fun ts=>(Lang.fresh ts).map (·.2)
theorem rname_ok {kp:Nat} {T:List Tok} {i b l c:Nat} {st:LS} {bv:Value} {vs:List Var} {h:AH} {Q:RQ} {t:Tok} (S:RSg ow h kp T i st bv vs b l c) (ht:T[i]?=some t)
  (hq:∀ h' i',RSg ow h' kp T i' (nameS st) bv vs b l c→Adv kp h h'→Q (.ret (encT t)) h'):HC Tryd.prog 32 [.pointer (some ⟨kp,0,none⟩)].toArray h Q:=by
 refine X32_ok ?_
 unfold X32
 have hlt:=S.lt
 simp (disch:=(first | exact dz | fail)) only [SXB,SX,reduceIte,Int.reduceLT,Int.reduceLE,Int.reduceToNat,Int.reduceBEq,Int.reduceBNe,Nat.reduceAdd,Nat.reduceMul,Nat.reduceSub,Nat.reduceLeDiff]
 refine HC.exact (tok_ok (S.push _ _) ht) ?_
 simp (disch:=(first | exact dz | fail)) only [encT,SXB,SX,reduceIte,Int.reduceLT,Int.reduceLE,Int.reduceToNat,Int.reduceBEq,Int.reduceBNe,Nat.reduceAdd,Nat.reduceMul,Nat.reduceSub,Nat.reduceLeDiff]
 -- behind the test
 have fin:∀ (h2:AH) (i2:Nat) (st2:LS),RSg ow h2 kp T i2 st2 bv vs b l c→(∀ ts,st2=.ok ts→ts.tail ≠ [])→tailS st2=nameS st→Adv kp h h2→h.size + 2 ≤ h2.size→h2.get h.size=some (.cells #[.int .i64 0,.int .i64 0,.string ⟨#[]⟩] 72 (0,0),none)→h2.get (h.size + 1)=some (.cells #[.int .i64 t.cls,.int .i64 t.at_,.string t.text] 72 (0,0),none) →
   K32_4 (.pointer (some ⟨kp,0,none⟩)) (.pointer (some ⟨h.size,0,none⟩)) (.pointer (some ⟨h.size + 1,0,none⟩)) h2 Q:=by
  intro h2 i2 st2 S2 hne e A hsz g0 g1
  refine X32_4_ok ?_
  unfold X32_4
  simp (disch:=(first | exact dz | fail)) only [SXB,SX,reduceIte,Int.reduceLT,Int.reduceLE,Int.reduceToNat,Int.reduceBEq,Int.reduceBNe,Nat.reduceAdd,Nat.reduceMul,Nat.reduceSub,Nat.reduceLeDiff]
  refine rnext_ok S2 hne fun h3 i3 S3 a=>?_
  rw [e] at S3
  have k0:=(a.get h.size (by omega) (by omega)).trans g0
  have k1:=(a.get (h.size + 1) (by omega) (by omega)).trans g1
  have hs3:=a.size
  simp (disch:=(first | exact dz | fail)) only [k0,k1,SXB,SX,reduceIte,Int.reduceLT,Int.reduceLE,Int.reduceToNat,Int.reduceBEq,Int.reduceBNe,Nat.reduceAdd,Nat.reduceMul,Nat.reduceSub,Nat.reduceLeDiff]
  refine hq _ i3 (S3.off _ (by omega) fun k hk=>?_) ((A.trans a).put _ _ (.inr (by omega)))
  have:=S.ltb k hk;omega
 have headOf:∀ ts,st=.ok ts→∃ r,ts=t::r:=fun ts e=>by
  have hd:=S.at_
  subst e
  have hd:T.drop i=ts:=hd
  rw [← hd,List.drop_eq_getElem_cons S.ilt]
  rw [List.getElem?_eq_getElem S.ilt] at ht
  exact ⟨_,by rw [Option.some.inj ht]⟩
 have S1:=((S.push (.cells #[.int .i64 0,.int .i64 0,.string ⟨#[]⟩] 72 (0,0)) none).push (.cells #[.int .i64 0,.int .i64 0,.string ⟨#[]⟩] 72 (0,0)) none).off (q:=h.size + 1) (some (.cells #[.int .i64 t.cls,.int .i64 t.at_,.string t.text] 72 (0,0),none)) (by omega) (fun k hk=>by have:=S.ltb k hk;omega)
 have A1:Adv kp h (((h.push (.cells #[.int .i64 0,.int .i64 0,.string ⟨#[]⟩] 72 (0,0)) none).push (.cells #[.int .i64 0,.int .i64 0,.string ⟨#[]⟩] 72 (0,0)) none).put (h.size + 1) (some (.cells #[.int .i64 t.cls,.int .i64 t.at_,.string t.text] 72 (0,0),none))):=by (repeat (first | exact Adv.refl _ _ | assumption | refine Adv.push ?_ _ _ | refine Adv.put ?_ _ _ (by first | exact .inl rfl | (right;first | omega | (simp only [sz_push,sz_put];omega)))))
 have g0:(((h.push (.cells #[.int .i64 0,.int .i64 0,.string ⟨#[]⟩] 72 (0,0)) none).push (.cells #[.int .i64 0,.int .i64 0,.string ⟨#[]⟩] 72 (0,0)) none).put (h.size + 1) (some (.cells #[.int .i64 t.cls,.int .i64 t.at_,.string t.text] 72 (0,0),none))).get h.size=some (.cells #[.int .i64 0,.int .i64 0,.string ⟨#[]⟩] 72 (0,0),none):=by rw [get_put_ne (by omega),get_push_ne (by simp)];exact get_push_eq rfl
 have g1:(((h.push (.cells #[.int .i64 0,.int .i64 0,.string ⟨#[]⟩] 72 (0,0)) none).push (.cells #[.int .i64 0,.int .i64 0,.string ⟨#[]⟩] 72 (0,0)) none).put (h.size + 1) (some (.cells #[.int .i64 t.cls,.int .i64 t.at_,.string t.text] 72 (0,0),none))).get (h.size + 1)=some (.cells #[.int .i64 t.cls,.int .i64 t.at_,.string t.text] 72 (0,0),none):=get_put_eq rfl
 have z1:h.size + 2 ≤ (((h.push (.cells #[.int .i64 0,.int .i64 0,.string ⟨#[]⟩] 72 (0,0)) none).push (.cells #[.int .i64 0,.int .i64 0,.string ⟨#[]⟩] 72 (0,0)) none).put (h.size + 1) (some (.cells #[.int .i64 t.cls,.int .i64 t.at_,.string t.text] 72 (0,0),none))).size:=by simp
 generalize (((h.push (.cells #[.int .i64 0,.int .i64 0,.string ⟨#[]⟩] 72 (0,0)) none).push (.cells #[.int .i64 0,.int .i64 0,.string ⟨#[]⟩] 72 (0,0)) none).put (h.size + 1) (some (.cells #[.int .i64 t.cls,.int .i64 t.at_,.string t.text] 72 (0,0),none)))=h1 at S1 A1 g0 g1 z1 ⊢
 have bad:(t.cls != 1 || isWord t.text)=true→∀ h2,RSg ow h2 kp T i (failS 161 t.at_ st) bv vs b l c→Adv kp h1 h2→K32_4 (.pointer (some ⟨kp,0,none⟩)) (.pointer (some ⟨h.size,0,none⟩)) (.pointer (some ⟨h.size + 1,0,none⟩)) h2 Q:=fun hb h2 S2 a=>by
  have hs:=a.size
  refine fin h2 i _ S2 (fun ts e=>?_) ?_ (A1.trans a) (by omega) ((a.get _ (by omega) (by omega)).trans g0) ((a.get _ (by omega) (by omega)).trans g1)
  ·cases st <;> cases e
  ·cases st with
   | error f=>rfl
   | ok ts =>
    obtain ⟨r,rfl⟩:=headOf ts rfl
    show _=(Lang.fresh (t::r)).map (·.2)
    unfold Lang.fresh
    simp only [hb,if_true]
    rfl
 have good:(t.cls != 1 || isWord t.text)=false→K32_4 (.pointer (some ⟨kp,0,none⟩)) (.pointer (some ⟨h.size,0,none⟩)) (.pointer (some ⟨h.size + 1,0,none⟩)) h1 Q:=fun hb=>by
  refine fin h1 i st S1 (fun ts e=>?_) ?_ A1 z1 g0 g1
  ·subst e
   obtain ⟨r,rfl⟩:=headOf ts rfl
   have hc:t.cls ≠ 0:=fun e=>by simp [e] at hb
   exact (S.okl.tail hc).ne
  ·cases st with
   | error f=>rfl
   | ok ts =>
    obtain ⟨r,rfl⟩:=headOf ts rfl
    show _=(Lang.fresh (t::r)).map (·.2)
    unfold Lang.fresh
    simp only [hb]
    rfl
 have ec:((t.cls:Int) != 1)=(t.cls != 1):=by
  rw [Bool.eq_iff_iff,bne_iff_ne,bne_iff_ne];omega
 rw [ec]
 cases hc:t.cls != 1 with
 | true =>
  rw [hc] at bad
  simp (disch:=(first | exact dz | fail)) only [g1,SXB,SX,reduceIte,Int.reduceLT,Int.reduceLE,Int.reduceToNat,Int.reduceBEq,Int.reduceBNe,Nat.reduceAdd,Nat.reduceMul,Nat.reduceSub,Nat.reduceLeDiff]
  exact rfail_ok S1 161 t.at_ (by omega) fun h2 S2 a=>by
   simp (disch:=(first | exact dz | fail)) only [SXB,SX,reduceIte,Int.reduceLT,Int.reduceLE,Int.reduceToNat,Int.reduceBEq,Int.reduceBNe,Nat.reduceAdd,Nat.reduceMul,Nat.reduceSub,Nat.reduceLeDiff]
   exact bad rfl h2 S2 a
 | false =>
  rw [hc] at bad good
  simp (disch:=(first | exact dz | fail)) only [g1,SXB,SX,reduceIte,Int.reduceLT,Int.reduceLE,Int.reduceToNat,Int.reduceBEq,Int.reduceBNe,Nat.reduceAdd,Nat.reduceMul,Nat.reduceSub,Nat.reduceLeDiff]
  refine HC.exact (reserved_ok t.text) ?_
  cases hw:isWord t.text with
  | true =>
   rw [hw] at bad
   simp (disch:=(first | exact dz | fail)) only [g1,SXB,SX,reduceIte,Int.reduceLT,Int.reduceLE,Int.reduceToNat,Int.reduceBEq,Int.reduceBNe,Nat.reduceAdd,Nat.reduceMul,Nat.reduceSub,Nat.reduceLeDiff]
   exact rfail_ok S1 161 t.at_ (by omega) fun h2 S2 a=>by
    simp (disch:=(first | exact dz | fail)) only [SXB,SX,reduceIte,Int.reduceLT,Int.reduceLE,Int.reduceToNat,Int.reduceBEq,Int.reduceBNe,Nat.reduceAdd,Nat.reduceMul,Nat.reduceSub,Nat.reduceLeDiff]
    exact bad rfl h2 S2 a
  | false =>
   rw [hw] at good
   simp (disch:=(first | exact dz | fail)) only [SXB,SX,reduceIte,Int.reduceLT,Int.reduceLE,Int.reduceToNat,Int.reduceBEq,Int.reduceBNe,Nat.reduceAdd,Nat.reduceMul,Nat.reduceSub,Nat.reduceLeDiff]
   exact good rfl
def bindS (vs:List Var) (st:LS):LS:=st.bind fun ts=>(Lang.unboundF vs ts).map (·.2)
theorem rbind_ok {kp:Nat} {T:List Tok} {i b l c:Nat} {st:LS} {bv:Value} {vs:List Var} {h:AH} {Q:RQ} (S:RSg ow h kp T i st bv vs b l c) (hl:vs.length ≤ 1048576) (hv:∀ v ∈ vs,v.2 ≠ 0∧v.2 < 256)
  (hq:∀ h' i' x,RSg ow h' kp T i' (bindS vs st) bv vs b l c→Adv kp h h'→(∀ ts y r,st=.ok ts→Lang.unboundF vs ts=.ok (y,r)→y=x)→Q (.ret (.string x)) h'):HC Tryd.prog 40 [.pointer (some ⟨kp,0,none⟩)].toArray h Q:=by
 refine X40_ok ?_
 unfold X40
 have hlt:=S.lt
 obtain ⟨t,ht⟩:=S.tok
 have headOf:∀ ts,st=.ok ts→∃ r,ts=t::r:=fun ts e=>by
  have hd:=S.at_
  subst e
  have hd:T.drop i=ts:=hd
  rw [← hd,List.drop_eq_getElem_cons S.ilt]
  rw [List.getElem?_eq_getElem S.ilt] at ht
  exact ⟨_,by rw [Option.some.inj ht]⟩
 have inv:∀ r,nameS st=.ok r→st=.ok (t::r)∧Lang.fresh (t::r)=.ok (t,r):=fun r e=>by
  cases st with
  | error f=>cases e
  | ok ts =>
   obtain ⟨r',rfl⟩:=headOf ts rfl
   change (Lang.fresh (t::r')).map (·.2)=_ at e
   unfold Lang.fresh at e ⊢
   simp only at e ⊢
   split at e
   ·cases e
   ·rename_i hc
    cases e
    exact ⟨rfl,by rw [if_neg hc]⟩
 have inve:∀ f,nameS st=.error f→bindS vs st=.error f:=fun f e=>by
  cases st with
  | error f'=>exact e
  | ok ts =>
   change (Lang.fresh ts).map (·.2)=_ at e
   show (Lang.unboundF vs ts).map (·.2)=_
   unfold Lang.unboundF
   cases hf:Lang.fresh ts with
   | error f'=>rw [hf] at e;cases e;rfl
   | ok y=>rw [hf] at e;cases e
 have txt:∀ ts y r,st=.ok ts→Lang.unboundF vs ts=.ok (y,r)→y=t.text:=fun ts y r e hu=>by
  obtain ⟨r',rfl⟩:=headOf ts e
  unfold Lang.unboundF Lang.fresh at hu
  simp only at hu
  split at hu
  ·cases hu
  ·rename_i u r2 hf
   split at hf
   ·cases hf
   ·cases hf
    split at hu
    ·cases hu
    ·cases hu;rfl
 generalize hs3:stN 3=s3
 simp (disch:=(first | exact dz | fail)) only [SXB,SX,reduceIte,Int.reduceLT,Int.reduceLE,Int.reduceToNat,Int.reduceBEq,Int.reduceBNe,Nat.reduceAdd,Nat.reduceMul,Nat.reduceSub,Nat.reduceLeDiff]
 subst hs3
 refine rname_ok S ht fun h1 i1 S1 A1=>?_
 have z1:=A1.size
 simp only [resK_ret]
 refine bq_of (stN_full (get_push_eq rfl) rfl rfl (fun z hz=>by simp [encT,Value.cells] at hz;rcases hz with rfl | rfl | rfl <;> rfl)) ?_
 have S2:=(S1.push (.cells #[.int .i64 0,.int .i64 0,.string ⟨#[]⟩] 72 (0,0)) none).off (q:=h1.size) (some (.cells (encT t).cells 72 (0,0),none)) (by omega) (fun k hk=>by have:=S1.ltb k hk;omega)
 have A2:Adv kp h ((h1.push (.cells #[.int .i64 0,.int .i64 0,.string ⟨#[]⟩] 72 (0,0)) none).put h1.size (some (.cells (encT t).cells 72 (0,0),none))):=A1.trans (by (repeat (first | exact Adv.refl _ _ | assumption | refine Adv.push ?_ _ _ | refine Adv.put ?_ _ _ (by first | exact .inl rfl | (right;first | omega | (simp only [sz_push,sz_put];omega))))))
 have g2:((h1.push (.cells #[.int .i64 0,.int .i64 0,.string ⟨#[]⟩] 72 (0,0)) none).put h1.size (some (.cells (encT t).cells 72 (0,0),none))).get h1.size=some (.cells #[.int .i64 t.cls,.int .i64 t.at_,.string t.text] 72 (0,0),none):=get_put_eq rfl
 have z2:((h1.push (.cells #[.int .i64 0,.int .i64 0,.string ⟨#[]⟩] 72 (0,0)) none).put h1.size (some (.cells (encT t).cells 72 (0,0),none))).size=h1.size + 1:=by simp
 generalize ((h1.push (.cells #[.int .i64 0,.int .i64 0,.string ⟨#[]⟩] 72 (0,0)) none).put h1.size (some (.cells (encT t).cells 72 (0,0),none)))=h2 at S2 A2 g2 z2 ⊢
 have fin:∀ h3 i3,RSg ow h3 kp T i3 (bindS vs st) bv vs b l c→Adv kp h2 h3→K40_4 (.pointer (some ⟨h1.size,0,none⟩)) h3 Q:=fun h3 i3 S3 a=>by
  refine X40_4_ok ?_
  unfold X40_4
  have k2:=(a.get h1.size (by omega) (by omega)).trans g2
  simp (disch:=(first | exact dz | fail)) only [k2,SXB,SX,reduceIte,Int.reduceLT,Int.reduceLE,Int.reduceToNat,Int.reduceBEq,Int.reduceBNe,Nat.reduceAdd,Nat.reduceMul,Nat.reduceSub,Nat.reduceLeDiff]
  exact hq h3 i3 t.text S3 (A2.trans a) txt
 cases hn:nameS st with
 | error f =>
  rw [hn] at S2
  obtain ⟨hr,e⟩:=S2.dead
  simp (disch:=(first | exact dz | fail)) only [hr,e,g2,SXB,SX,reduceIte,Int.reduceLT,Int.reduceLE,Int.reduceToNat,Int.reduceBEq,Int.reduceBNe,Nat.reduceAdd,Nat.reduceMul,Nat.reduceSub,Nat.reduceLeDiff]
  exact fin h2 _ (by rw [inve f hn];exact S2) (.refl _ _)
 | ok r =>
  rw [hn] at S2
  obtain ⟨hst,hf⟩:=inv r hn
  have hr:=S2.live
  have e0:((0:Int) == 0)=true:=rfl
  simp (disch:=(first | exact dz | fail)) only [hr,e0,g2,SXB,SX,reduceIte,Int.reduceLT,Int.reduceLE,Int.reduceToNat,Int.reduceBEq,Int.reduceBNe,Nat.reduceAdd,Nat.reduceMul,Nat.reduceSub,Nat.reduceLeDiff]
  refine HC.exact (rkind_ok S2 hl t.text) ?_
  have hu:bindS vs st=if (Lang.kindOf vs t.text).isSome then .error (162,t.at_) else .ok r:=by
   rw [hst]
   show (Lang.unboundF vs (t::r)).map (·.2)=_
   unfold Lang.unboundF
   rw [hf]
   simp only
   split <;> rfl
  cases hk:Lang.kindOf vs t.text with
  | none =>
   rw [hk] at hu
   have e1:(((Option.getD (none:Option Nat) 0:Nat):Int) != 0)=false:=rfl
   simp (disch:=(first | exact dz | fail)) only [kindV,e1,g2,SXB,SX,reduceIte,Int.reduceLT,Int.reduceLE,Int.reduceToNat,Int.reduceBEq,Int.reduceBNe,Nat.reduceAdd,Nat.reduceMul,Nat.reduceSub,Nat.reduceLeDiff]
   exact fin h2 _ (by rw [hu];exact S2) (.refl _ _)
  | some k =>
   rw [hk] at hu
   have hk0:k ≠ 0:=by
    unfold Lang.kindOf at hk
    obtain ⟨v,hv1,rfl⟩:=Option.map_eq_some_iff.1 hk
    exact (hv v (List.mem_of_find?_eq_some hv1)).1
   have e1:(((Option.getD (some k) 0:Nat):Int) != 0)=true:=by simp;omega
   simp (disch:=(first | exact dz | fail)) only [kindV,e1,g2,SXB,SX,reduceIte,Int.reduceLT,Int.reduceLE,Int.reduceToNat,Int.reduceBEq,Int.reduceBNe,Nat.reduceAdd,Nat.reduceMul,Nat.reduceSub,Nat.reduceLeDiff]
   refine rfail_ok S2 162 t.at_ (by omega) fun h3 S3 a=>?_
   simp (disch:=(first | exact dz | fail)) only [SXB,SX,reduceIte,Int.reduceLT,Int.reduceLE,Int.reduceToNat,Int.reduceBEq,Int.reduceBNe,Nat.reduceAdd,Nat.reduceMul,Nat.reduceSub,Nat.reduceLeDiff]
   exact fin h3 _ (by rw [hu];exact S3) a
theorem findS_of {f g:ByteArray} (h:f.toList=g.toList):findS f sigs=findS g sigs:=by unfold findS eqT;rw [h]
def sgV:Option Sig→Value
 | some s=>.tuple #[.string s.args,.int .u8 (s.ans[0]!).toNat]
 | none=>.tuple #[.string empty,.int .u8 0]
theorem sign_ok {h:AH} (t:ByteArray):Ex Tryd.prog 42 [.string t].toArray h (sgV (findS t sigs)) h:=by
 refine X42_ok ?_
 unfold X42
 simp (disch:=(first | exact dz | fail)) only [SXB,SX,reduceIte,Int.reduceLT,Int.reduceLE,Int.reduceToNat,Int.reduceBEq,Int.reduceBNe,Nat.reduceAdd,Nat.reduceMul,Nat.reduceSub,Nat.reduceLeDiff]
 cases e1:(t.toList == (ByteArray.mk #[97,100,100]).toList) with
 | true =>
  have hf:=findS_of (eq_of_beq e1)
  have hg:findS (ByteArray.mk #[97,100,100]) sigs=some ⟨⟨#[97,100,100]⟩,⟨#[110,110]⟩,⟨#[110]⟩⟩:=by kernel_rfl
  rw [hf,hg]
  try simp (disch:=(first | exact dz | fail)) only [SXB,SX,reduceIte,Int.reduceLT,Int.reduceLE,Int.reduceToNat,Int.reduceBEq,Int.reduceBNe,Nat.reduceAdd,Nat.reduceMul,Nat.reduceSub,Nat.reduceLeDiff]
  refine X42_9_ok ?_
  unfold X42_9
  try simp (disch:=(first | exact dz | fail)) only [SXB,SX,reduceIte,Int.reduceLT,Int.reduceLE,Int.reduceToNat,Int.reduceBEq,Int.reduceBNe,Nat.reduceAdd,Nat.reduceMul,Nat.reduceSub,Nat.reduceLeDiff]
  first | exact ⟨rfl,rfl⟩ | rfl | trivial
 | false =>
 try simp (disch:=(first | exact dz | fail)) only [SXB,SX,reduceIte,Int.reduceLT,Int.reduceLE,Int.reduceToNat,Int.reduceBEq,Int.reduceBNe,Nat.reduceAdd,Nat.reduceMul,Nat.reduceSub,Nat.reduceLeDiff]
 cases e2:(t.toList == (ByteArray.mk #[115,117,98]).toList) with
 | true =>
  have hf:=findS_of (eq_of_beq e2)
  have hg:findS (ByteArray.mk #[115,117,98]) sigs=some ⟨⟨#[115,117,98]⟩,⟨#[110,110]⟩,⟨#[110]⟩⟩:=by kernel_rfl
  rw [hf,hg]
  try simp (disch:=(first | exact dz | fail)) only [SXB,SX,reduceIte,Int.reduceLT,Int.reduceLE,Int.reduceToNat,Int.reduceBEq,Int.reduceBNe,Nat.reduceAdd,Nat.reduceMul,Nat.reduceSub,Nat.reduceLeDiff]
  refine X42_9_ok ?_
  unfold X42_9
  try simp (disch:=(first | exact dz | fail)) only [SXB,SX,reduceIte,Int.reduceLT,Int.reduceLE,Int.reduceToNat,Int.reduceBEq,Int.reduceBNe,Nat.reduceAdd,Nat.reduceMul,Nat.reduceSub,Nat.reduceLeDiff]
  first | exact ⟨rfl,rfl⟩ | rfl | trivial
 | false =>
 try simp (disch:=(first | exact dz | fail)) only [SXB,SX,reduceIte,Int.reduceLT,Int.reduceLE,Int.reduceToNat,Int.reduceBEq,Int.reduceBNe,Nat.reduceAdd,Nat.reduceMul,Nat.reduceSub,Nat.reduceLeDiff]
 cases e3:(t.toList == (ByteArray.mk #[109,117,108]).toList) with
 | true =>
  have hf:=findS_of (eq_of_beq e3)
  have hg:findS (ByteArray.mk #[109,117,108]) sigs=some ⟨⟨#[109,117,108]⟩,⟨#[110,110]⟩,⟨#[110]⟩⟩:=by kernel_rfl
  rw [hf,hg]
  try simp (disch:=(first | exact dz | fail)) only [SXB,SX,reduceIte,Int.reduceLT,Int.reduceLE,Int.reduceToNat,Int.reduceBEq,Int.reduceBNe,Nat.reduceAdd,Nat.reduceMul,Nat.reduceSub,Nat.reduceLeDiff]
  refine X42_9_ok ?_
  unfold X42_9
  try simp (disch:=(first | exact dz | fail)) only [SXB,SX,reduceIte,Int.reduceLT,Int.reduceLE,Int.reduceToNat,Int.reduceBEq,Int.reduceBNe,Nat.reduceAdd,Nat.reduceMul,Nat.reduceSub,Nat.reduceLeDiff]
  first | exact ⟨rfl,rfl⟩ | rfl | trivial
 | false =>
 try simp (disch:=(first | exact dz | fail)) only [SXB,SX,reduceIte,Int.reduceLT,Int.reduceLE,Int.reduceToNat,Int.reduceBEq,Int.reduceBNe,Nat.reduceAdd,Nat.reduceMul,Nat.reduceSub,Nat.reduceLeDiff]
 cases e4:(t.toList == (ByteArray.mk #[100,105,118]).toList) with
 | true =>
  have hf:=findS_of (eq_of_beq e4)
  have hg:findS (ByteArray.mk #[100,105,118]) sigs=some ⟨⟨#[100,105,118]⟩,⟨#[110,110]⟩,⟨#[110]⟩⟩:=by kernel_rfl
  rw [hf,hg]
  try simp (disch:=(first | exact dz | fail)) only [SXB,SX,reduceIte,Int.reduceLT,Int.reduceLE,Int.reduceToNat,Int.reduceBEq,Int.reduceBNe,Nat.reduceAdd,Nat.reduceMul,Nat.reduceSub,Nat.reduceLeDiff]
  refine X42_9_ok ?_
  unfold X42_9
  try simp (disch:=(first | exact dz | fail)) only [SXB,SX,reduceIte,Int.reduceLT,Int.reduceLE,Int.reduceToNat,Int.reduceBEq,Int.reduceBNe,Nat.reduceAdd,Nat.reduceMul,Nat.reduceSub,Nat.reduceLeDiff]
  first | exact ⟨rfl,rfl⟩ | rfl | trivial
 | false =>
 try simp (disch:=(first | exact dz | fail)) only [SXB,SX,reduceIte,Int.reduceLT,Int.reduceLE,Int.reduceToNat,Int.reduceBEq,Int.reduceBNe,Nat.reduceAdd,Nat.reduceMul,Nat.reduceSub,Nat.reduceLeDiff]
 cases e5:(t.toList == (ByteArray.mk #[108,116]).toList) with
 | true =>
  have hf:=findS_of (eq_of_beq e5)
  have hg:findS (ByteArray.mk #[108,116]) sigs=some ⟨⟨#[108,116]⟩,⟨#[110,110]⟩,⟨#[110]⟩⟩:=by kernel_rfl
  rw [hf,hg]
  try simp (disch:=(first | exact dz | fail)) only [SXB,SX,reduceIte,Int.reduceLT,Int.reduceLE,Int.reduceToNat,Int.reduceBEq,Int.reduceBNe,Nat.reduceAdd,Nat.reduceMul,Nat.reduceSub,Nat.reduceLeDiff]
  refine X42_9_ok ?_
  unfold X42_9
  try simp (disch:=(first | exact dz | fail)) only [SXB,SX,reduceIte,Int.reduceLT,Int.reduceLE,Int.reduceToNat,Int.reduceBEq,Int.reduceBNe,Nat.reduceAdd,Nat.reduceMul,Nat.reduceSub,Nat.reduceLeDiff]
  first | exact ⟨rfl,rfl⟩ | rfl | trivial
 | false =>
 try simp (disch:=(first | exact dz | fail)) only [SXB,SX,reduceIte,Int.reduceLT,Int.reduceLE,Int.reduceToNat,Int.reduceBEq,Int.reduceBNe,Nat.reduceAdd,Nat.reduceMul,Nat.reduceSub,Nat.reduceLeDiff]
 cases e6:(t.toList == (ByteArray.mk #[97,110,100]).toList) with
 | true =>
  have hf:=findS_of (eq_of_beq e6)
  have hg:findS (ByteArray.mk #[97,110,100]) sigs=some ⟨⟨#[97,110,100]⟩,⟨#[110,110]⟩,⟨#[110]⟩⟩:=by kernel_rfl
  rw [hf,hg]
  try simp (disch:=(first | exact dz | fail)) only [SXB,SX,reduceIte,Int.reduceLT,Int.reduceLE,Int.reduceToNat,Int.reduceBEq,Int.reduceBNe,Nat.reduceAdd,Nat.reduceMul,Nat.reduceSub,Nat.reduceLeDiff]
  refine X42_9_ok ?_
  unfold X42_9
  try simp (disch:=(first | exact dz | fail)) only [SXB,SX,reduceIte,Int.reduceLT,Int.reduceLE,Int.reduceToNat,Int.reduceBEq,Int.reduceBNe,Nat.reduceAdd,Nat.reduceMul,Nat.reduceSub,Nat.reduceLeDiff]
  first | exact ⟨rfl,rfl⟩ | rfl | trivial
 | false =>
 try simp (disch:=(first | exact dz | fail)) only [SXB,SX,reduceIte,Int.reduceLT,Int.reduceLE,Int.reduceToNat,Int.reduceBEq,Int.reduceBNe,Nat.reduceAdd,Nat.reduceMul,Nat.reduceSub,Nat.reduceLeDiff]
 cases e7:(t.toList == (ByteArray.mk #[111,114]).toList) with
 | true =>
  have hf:=findS_of (eq_of_beq e7)
  have hg:findS (ByteArray.mk #[111,114]) sigs=some ⟨⟨#[111,114]⟩,⟨#[110,110]⟩,⟨#[110]⟩⟩:=by kernel_rfl
  rw [hf,hg]
  try simp (disch:=(first | exact dz | fail)) only [SXB,SX,reduceIte,Int.reduceLT,Int.reduceLE,Int.reduceToNat,Int.reduceBEq,Int.reduceBNe,Nat.reduceAdd,Nat.reduceMul,Nat.reduceSub,Nat.reduceLeDiff]
  refine X42_9_ok ?_
  unfold X42_9
  try simp (disch:=(first | exact dz | fail)) only [SXB,SX,reduceIte,Int.reduceLT,Int.reduceLE,Int.reduceToNat,Int.reduceBEq,Int.reduceBNe,Nat.reduceAdd,Nat.reduceMul,Nat.reduceSub,Nat.reduceLeDiff]
  first | exact ⟨rfl,rfl⟩ | rfl | trivial
 | false =>
 try simp (disch:=(first | exact dz | fail)) only [SXB,SX,reduceIte,Int.reduceLT,Int.reduceLE,Int.reduceToNat,Int.reduceBEq,Int.reduceBNe,Nat.reduceAdd,Nat.reduceMul,Nat.reduceSub,Nat.reduceLeDiff]
 refine X42_9_ok ?_
 unfold X42_9
 try simp (disch:=(first | exact dz | fail)) only [SXB,SX,reduceIte,Int.reduceLT,Int.reduceLE,Int.reduceToNat,Int.reduceBEq,Int.reduceBNe,Nat.reduceAdd,Nat.reduceMul,Nat.reduceSub,Nat.reduceLeDiff]
 cases e8:(t.toList == (ByteArray.mk #[108,101,110]).toList) with
 | true =>
  have hf:=findS_of (eq_of_beq e8)
  have hg:findS (ByteArray.mk #[108,101,110]) sigs=some ⟨⟨#[108,101,110]⟩,⟨#[116]⟩,⟨#[110]⟩⟩:=by kernel_rfl
  rw [hf,hg]
  try simp (disch:=(first | exact dz | fail)) only [SXB,SX,reduceIte,Int.reduceLT,Int.reduceLE,Int.reduceToNat,Int.reduceBEq,Int.reduceBNe,Nat.reduceAdd,Nat.reduceMul,Nat.reduceSub,Nat.reduceLeDiff]
  refine X42_12_ok ?_
  unfold X42_12
  try simp (disch:=(first | exact dz | fail)) only [SXB,SX,reduceIte,Int.reduceLT,Int.reduceLE,Int.reduceToNat,Int.reduceBEq,Int.reduceBNe,Nat.reduceAdd,Nat.reduceMul,Nat.reduceSub,Nat.reduceLeDiff]
  first | exact ⟨rfl,rfl⟩ | rfl | trivial
 | false =>
 try simp (disch:=(first | exact dz | fail)) only [SXB,SX,reduceIte,Int.reduceLT,Int.reduceLE,Int.reduceToNat,Int.reduceBEq,Int.reduceBNe,Nat.reduceAdd,Nat.reduceMul,Nat.reduceSub,Nat.reduceLeDiff]
 cases e9:(t.toList == (ByteArray.mk #[110,117,109]).toList) with
 | true =>
  have hf:=findS_of (eq_of_beq e9)
  have hg:findS (ByteArray.mk #[110,117,109]) sigs=some ⟨⟨#[110,117,109]⟩,⟨#[116]⟩,⟨#[110]⟩⟩:=by kernel_rfl
  rw [hf,hg]
  try simp (disch:=(first | exact dz | fail)) only [SXB,SX,reduceIte,Int.reduceLT,Int.reduceLE,Int.reduceToNat,Int.reduceBEq,Int.reduceBNe,Nat.reduceAdd,Nat.reduceMul,Nat.reduceSub,Nat.reduceLeDiff]
  refine X42_12_ok ?_
  unfold X42_12
  try simp (disch:=(first | exact dz | fail)) only [SXB,SX,reduceIte,Int.reduceLT,Int.reduceLE,Int.reduceToNat,Int.reduceBEq,Int.reduceBNe,Nat.reduceAdd,Nat.reduceMul,Nat.reduceSub,Nat.reduceLeDiff]
  first | exact ⟨rfl,rfl⟩ | rfl | trivial
 | false =>
 try simp (disch:=(first | exact dz | fail)) only [SXB,SX,reduceIte,Int.reduceLT,Int.reduceLE,Int.reduceToNat,Int.reduceBEq,Int.reduceBNe,Nat.reduceAdd,Nat.reduceMul,Nat.reduceSub,Nat.reduceLeDiff]
 refine X42_12_ok ?_
 unfold X42_12
 try simp (disch:=(first | exact dz | fail)) only [SXB,SX,reduceIte,Int.reduceLT,Int.reduceLE,Int.reduceToNat,Int.reduceBEq,Int.reduceBNe,Nat.reduceAdd,Nat.reduceMul,Nat.reduceSub,Nat.reduceLeDiff]
 cases e10:(t.toList == (ByteArray.mk #[116,101,120,116]).toList) with
 | true =>
  have hf:=findS_of (eq_of_beq e10)
  have hg:findS (ByteArray.mk #[116,101,120,116]) sigs=some ⟨⟨#[116,101,120,116]⟩,⟨#[110]⟩,⟨#[116]⟩⟩:=by kernel_rfl
  rw [hf,hg]
  try simp (disch:=(first | exact dz | fail)) only [SXB,SX,reduceIte,Int.reduceLT,Int.reduceLE,Int.reduceToNat,Int.reduceBEq,Int.reduceBNe,Nat.reduceAdd,Nat.reduceMul,Nat.reduceSub,Nat.reduceLeDiff]
  first | exact ⟨rfl,rfl⟩ | rfl | trivial
 | false =>
 try simp (disch:=(first | exact dz | fail)) only [SXB,SX,reduceIte,Int.reduceLT,Int.reduceLE,Int.reduceToNat,Int.reduceBEq,Int.reduceBNe,Nat.reduceAdd,Nat.reduceMul,Nat.reduceSub,Nat.reduceLeDiff]
 cases e11:(t.toList == (ByteArray.mk #[99,97,116]).toList) with
 | true =>
  have hf:=findS_of (eq_of_beq e11)
  have hg:findS (ByteArray.mk #[99,97,116]) sigs=some ⟨⟨#[99,97,116]⟩,⟨#[116,116]⟩,⟨#[116]⟩⟩:=by kernel_rfl
  rw [hf,hg]
  try simp (disch:=(first | exact dz | fail)) only [SXB,SX,reduceIte,Int.reduceLT,Int.reduceLE,Int.reduceToNat,Int.reduceBEq,Int.reduceBNe,Nat.reduceAdd,Nat.reduceMul,Nat.reduceSub,Nat.reduceLeDiff]
  first | exact ⟨rfl,rfl⟩ | rfl | trivial
 | false =>
 try simp (disch:=(first | exact dz | fail)) only [SXB,SX,reduceIte,Int.reduceLT,Int.reduceLE,Int.reduceToNat,Int.reduceBEq,Int.reduceBNe,Nat.reduceAdd,Nat.reduceMul,Nat.reduceSub,Nat.reduceLeDiff]
 cases e12:(t.toList == (ByteArray.mk #[99,117,116]).toList) with
 | true =>
  have hf:=findS_of (eq_of_beq e12)
  have hg:findS (ByteArray.mk #[99,117,116]) sigs=some ⟨⟨#[99,117,116]⟩,⟨#[116,110,110]⟩,⟨#[116]⟩⟩:=by kernel_rfl
  rw [hf,hg]
  try simp (disch:=(first | exact dz | fail)) only [SXB,SX,reduceIte,Int.reduceLT,Int.reduceLE,Int.reduceToNat,Int.reduceBEq,Int.reduceBNe,Nat.reduceAdd,Nat.reduceMul,Nat.reduceSub,Nat.reduceLeDiff]
  first | exact ⟨rfl,rfl⟩ | rfl | trivial
 | false =>
 try simp (disch:=(first | exact dz | fail)) only [SXB,SX,reduceIte,Int.reduceLT,Int.reduceLE,Int.reduceToNat,Int.reduceBEq,Int.reduceBNe,Nat.reduceAdd,Nat.reduceMul,Nat.reduceSub,Nat.reduceLeDiff]
 cases e13:(t.toList == (ByteArray.mk #[117,112,112,101,114]).toList) with
 | true =>
  have hf:=findS_of (eq_of_beq e13)
  have hg:findS (ByteArray.mk #[117,112,112,101,114]) sigs=some ⟨⟨#[117,112,112,101,114]⟩,⟨#[116]⟩,⟨#[116]⟩⟩:=by kernel_rfl
  rw [hf,hg]
  try simp (disch:=(first | exact dz | fail)) only [SXB,SX,reduceIte,Int.reduceLT,Int.reduceLE,Int.reduceToNat,Int.reduceBEq,Int.reduceBNe,Nat.reduceAdd,Nat.reduceMul,Nat.reduceSub,Nat.reduceLeDiff]
  refine X42_21_ok ?_
  unfold X42_21
  try simp (disch:=(first | exact dz | fail)) only [SXB,SX,reduceIte,Int.reduceLT,Int.reduceLE,Int.reduceToNat,Int.reduceBEq,Int.reduceBNe,Nat.reduceAdd,Nat.reduceMul,Nat.reduceSub,Nat.reduceLeDiff]
  first | exact ⟨rfl,rfl⟩ | rfl | trivial
 | false =>
 try simp (disch:=(first | exact dz | fail)) only [SXB,SX,reduceIte,Int.reduceLT,Int.reduceLE,Int.reduceToNat,Int.reduceBEq,Int.reduceBNe,Nat.reduceAdd,Nat.reduceMul,Nat.reduceSub,Nat.reduceLeDiff]
 cases e14:(t.toList == (ByteArray.mk #[108,111,119,101,114]).toList) with
 | true =>
  have hf:=findS_of (eq_of_beq e14)
  have hg:findS (ByteArray.mk #[108,111,119,101,114]) sigs=some ⟨⟨#[108,111,119,101,114]⟩,⟨#[116]⟩,⟨#[116]⟩⟩:=by kernel_rfl
  rw [hf,hg]
  try simp (disch:=(first | exact dz | fail)) only [SXB,SX,reduceIte,Int.reduceLT,Int.reduceLE,Int.reduceToNat,Int.reduceBEq,Int.reduceBNe,Nat.reduceAdd,Nat.reduceMul,Nat.reduceSub,Nat.reduceLeDiff]
  refine X42_21_ok ?_
  unfold X42_21
  try simp (disch:=(first | exact dz | fail)) only [SXB,SX,reduceIte,Int.reduceLT,Int.reduceLE,Int.reduceToNat,Int.reduceBEq,Int.reduceBNe,Nat.reduceAdd,Nat.reduceMul,Nat.reduceSub,Nat.reduceLeDiff]
  first | exact ⟨rfl,rfl⟩ | rfl | trivial
 | false =>
 try simp (disch:=(first | exact dz | fail)) only [SXB,SX,reduceIte,Int.reduceLT,Int.reduceLE,Int.reduceToNat,Int.reduceBEq,Int.reduceBNe,Nat.reduceAdd,Nat.reduceMul,Nat.reduceSub,Nat.reduceLeDiff]
 refine X42_21_ok ?_
 unfold X42_21
 try simp (disch:=(first | exact dz | fail)) only [SXB,SX,reduceIte,Int.reduceLT,Int.reduceLE,Int.reduceToNat,Int.reduceBEq,Int.reduceBNe,Nat.reduceAdd,Nat.reduceMul,Nat.reduceSub,Nat.reduceLeDiff]
 cases e15:(t.toList == (ByteArray.mk #[101,113]).toList) with
 | true =>
  have hf:=findS_of (eq_of_beq e15)
  have hg:findS (ByteArray.mk #[101,113]) sigs=some ⟨⟨#[101,113]⟩,⟨#[116,116]⟩,⟨#[110]⟩⟩:=by kernel_rfl
  rw [hf,hg]
  try simp (disch:=(first | exact dz | fail)) only [SXB,SX,reduceIte,Int.reduceLT,Int.reduceLE,Int.reduceToNat,Int.reduceBEq,Int.reduceBNe,Nat.reduceAdd,Nat.reduceMul,Nat.reduceSub,Nat.reduceLeDiff]
  refine X42_24_ok ?_
  unfold X42_24
  try simp (disch:=(first | exact dz | fail)) only [SXB,SX,reduceIte,Int.reduceLT,Int.reduceLE,Int.reduceToNat,Int.reduceBEq,Int.reduceBNe,Nat.reduceAdd,Nat.reduceMul,Nat.reduceSub,Nat.reduceLeDiff]
  first | exact ⟨rfl,rfl⟩ | rfl | trivial
 | false =>
 try simp (disch:=(first | exact dz | fail)) only [SXB,SX,reduceIte,Int.reduceLT,Int.reduceLE,Int.reduceToNat,Int.reduceBEq,Int.reduceBNe,Nat.reduceAdd,Nat.reduceMul,Nat.reduceSub,Nat.reduceLeDiff]
 cases e16:(t.toList == (ByteArray.mk #[108,101,115,115]).toList) with
 | true =>
  have hf:=findS_of (eq_of_beq e16)
  have hg:findS (ByteArray.mk #[108,101,115,115]) sigs=some ⟨⟨#[108,101,115,115]⟩,⟨#[116,116]⟩,⟨#[110]⟩⟩:=by kernel_rfl
  rw [hf,hg]
  try simp (disch:=(first | exact dz | fail)) only [SXB,SX,reduceIte,Int.reduceLT,Int.reduceLE,Int.reduceToNat,Int.reduceBEq,Int.reduceBNe,Nat.reduceAdd,Nat.reduceMul,Nat.reduceSub,Nat.reduceLeDiff]
  refine X42_24_ok ?_
  unfold X42_24
  try simp (disch:=(first | exact dz | fail)) only [SXB,SX,reduceIte,Int.reduceLT,Int.reduceLE,Int.reduceToNat,Int.reduceBEq,Int.reduceBNe,Nat.reduceAdd,Nat.reduceMul,Nat.reduceSub,Nat.reduceLeDiff]
  first | exact ⟨rfl,rfl⟩ | rfl | trivial
 | false =>
 try simp (disch:=(first | exact dz | fail)) only [SXB,SX,reduceIte,Int.reduceLT,Int.reduceLE,Int.reduceToNat,Int.reduceBEq,Int.reduceBNe,Nat.reduceAdd,Nat.reduceMul,Nat.reduceSub,Nat.reduceLeDiff]
 refine X42_24_ok ?_
 unfold X42_24
 try simp (disch:=(first | exact dz | fail)) only [SXB,SX,reduceIte,Int.reduceLT,Int.reduceLE,Int.reduceToNat,Int.reduceBEq,Int.reduceBNe,Nat.reduceAdd,Nat.reduceMul,Nat.reduceSub,Nat.reduceLeDiff]
 cases e17:(t.toList == (ByteArray.mk #[110,111,116]).toList) with
 | true =>
  have hf:=findS_of (eq_of_beq e17)
  have hg:findS (ByteArray.mk #[110,111,116]) sigs=some ⟨⟨#[110,111,116]⟩,⟨#[110]⟩,⟨#[110]⟩⟩:=by kernel_rfl
  rw [hf,hg]
  try simp (disch:=(first | exact dz | fail)) only [SXB,SX,reduceIte,Int.reduceLT,Int.reduceLE,Int.reduceToNat,Int.reduceBEq,Int.reduceBNe,Nat.reduceAdd,Nat.reduceMul,Nat.reduceSub,Nat.reduceLeDiff]
  first | exact ⟨rfl,rfl⟩ | rfl | trivial
 | false =>
 try simp (disch:=(first | exact dz | fail)) only [SXB,SX,reduceIte,Int.reduceLT,Int.reduceLE,Int.reduceToNat,Int.reduceBEq,Int.reduceBNe,Nat.reduceAdd,Nat.reduceMul,Nat.reduceSub,Nat.reduceLeDiff]
 cases e18:(t.toList == (ByteArray.mk #[115,117,109]).toList) with
 | true =>
  have hf:=findS_of (eq_of_beq e18)
  have hg:findS (ByteArray.mk #[115,117,109]) sigs=some ⟨⟨#[115,117,109]⟩,⟨#[108]⟩,⟨#[110]⟩⟩:=by kernel_rfl
  rw [hf,hg]
  try simp (disch:=(first | exact dz | fail)) only [SXB,SX,reduceIte,Int.reduceLT,Int.reduceLE,Int.reduceToNat,Int.reduceBEq,Int.reduceBNe,Nat.reduceAdd,Nat.reduceMul,Nat.reduceSub,Nat.reduceLeDiff]
  refine X42_31_ok ?_
  unfold X42_31
  try simp (disch:=(first | exact dz | fail)) only [SXB,SX,reduceIte,Int.reduceLT,Int.reduceLE,Int.reduceToNat,Int.reduceBEq,Int.reduceBNe,Nat.reduceAdd,Nat.reduceMul,Nat.reduceSub,Nat.reduceLeDiff]
  first | exact ⟨rfl,rfl⟩ | rfl | trivial
 | false =>
 try simp (disch:=(first | exact dz | fail)) only [SXB,SX,reduceIte,Int.reduceLT,Int.reduceLE,Int.reduceToNat,Int.reduceBEq,Int.reduceBNe,Nat.reduceAdd,Nat.reduceMul,Nat.reduceSub,Nat.reduceLeDiff]
 cases e19:(t.toList == (ByteArray.mk #[99,111,117,110,116]).toList) with
 | true =>
  have hf:=findS_of (eq_of_beq e19)
  have hg:findS (ByteArray.mk #[99,111,117,110,116]) sigs=some ⟨⟨#[99,111,117,110,116]⟩,⟨#[108]⟩,⟨#[110]⟩⟩:=by kernel_rfl
  rw [hf,hg]
  try simp (disch:=(first | exact dz | fail)) only [SXB,SX,reduceIte,Int.reduceLT,Int.reduceLE,Int.reduceToNat,Int.reduceBEq,Int.reduceBNe,Nat.reduceAdd,Nat.reduceMul,Nat.reduceSub,Nat.reduceLeDiff]
  refine X42_31_ok ?_
  unfold X42_31
  try simp (disch:=(first | exact dz | fail)) only [SXB,SX,reduceIte,Int.reduceLT,Int.reduceLE,Int.reduceToNat,Int.reduceBEq,Int.reduceBNe,Nat.reduceAdd,Nat.reduceMul,Nat.reduceSub,Nat.reduceLeDiff]
  first | exact ⟨rfl,rfl⟩ | rfl | trivial
 | false =>
 try simp (disch:=(first | exact dz | fail)) only [SXB,SX,reduceIte,Int.reduceLT,Int.reduceLE,Int.reduceToNat,Int.reduceBEq,Int.reduceBNe,Nat.reduceAdd,Nat.reduceMul,Nat.reduceSub,Nat.reduceLeDiff]
 cases e20:(t.toList == (ByteArray.mk #[109,97,120]).toList) with
 | true =>
  have hf:=findS_of (eq_of_beq e20)
  have hg:findS (ByteArray.mk #[109,97,120]) sigs=some ⟨⟨#[109,97,120]⟩,⟨#[108]⟩,⟨#[110]⟩⟩:=by kernel_rfl
  rw [hf,hg]
  try simp (disch:=(first | exact dz | fail)) only [SXB,SX,reduceIte,Int.reduceLT,Int.reduceLE,Int.reduceToNat,Int.reduceBEq,Int.reduceBNe,Nat.reduceAdd,Nat.reduceMul,Nat.reduceSub,Nat.reduceLeDiff]
  refine X42_31_ok ?_
  unfold X42_31
  try simp (disch:=(first | exact dz | fail)) only [SXB,SX,reduceIte,Int.reduceLT,Int.reduceLE,Int.reduceToNat,Int.reduceBEq,Int.reduceBNe,Nat.reduceAdd,Nat.reduceMul,Nat.reduceSub,Nat.reduceLeDiff]
  first | exact ⟨rfl,rfl⟩ | rfl | trivial
 | false =>
 try simp (disch:=(first | exact dz | fail)) only [SXB,SX,reduceIte,Int.reduceLT,Int.reduceLE,Int.reduceToNat,Int.reduceBEq,Int.reduceBNe,Nat.reduceAdd,Nat.reduceMul,Nat.reduceSub,Nat.reduceLeDiff]
 cases e21:(t.toList == (ByteArray.mk #[109,105,110]).toList) with
 | true =>
  have hf:=findS_of (eq_of_beq e21)
  have hg:findS (ByteArray.mk #[109,105,110]) sigs=some ⟨⟨#[109,105,110]⟩,⟨#[108]⟩,⟨#[110]⟩⟩:=by kernel_rfl
  rw [hf,hg]
  try simp (disch:=(first | exact dz | fail)) only [SXB,SX,reduceIte,Int.reduceLT,Int.reduceLE,Int.reduceToNat,Int.reduceBEq,Int.reduceBNe,Nat.reduceAdd,Nat.reduceMul,Nat.reduceSub,Nat.reduceLeDiff]
  refine X42_31_ok ?_
  unfold X42_31
  try simp (disch:=(first | exact dz | fail)) only [SXB,SX,reduceIte,Int.reduceLT,Int.reduceLE,Int.reduceToNat,Int.reduceBEq,Int.reduceBNe,Nat.reduceAdd,Nat.reduceMul,Nat.reduceSub,Nat.reduceLeDiff]
  first | exact ⟨rfl,rfl⟩ | rfl | trivial
 | false =>
 try simp (disch:=(first | exact dz | fail)) only [SXB,SX,reduceIte,Int.reduceLT,Int.reduceLE,Int.reduceToNat,Int.reduceBEq,Int.reduceBNe,Nat.reduceAdd,Nat.reduceMul,Nat.reduceSub,Nat.reduceLeDiff]
 refine X42_31_ok ?_
 unfold X42_31
 try simp (disch:=(first | exact dz | fail)) only [SXB,SX,reduceIte,Int.reduceLT,Int.reduceLE,Int.reduceToNat,Int.reduceBEq,Int.reduceBNe,Nat.reduceAdd,Nat.reduceMul,Nat.reduceSub,Nat.reduceLeDiff]
 cases e22:(t.toList == (ByteArray.mk #[102,105,114,115,116]).toList) with
 | true =>
  have hf:=findS_of (eq_of_beq e22)
  have hg:findS (ByteArray.mk #[102,105,114,115,116]) sigs=some ⟨⟨#[102,105,114,115,116]⟩,⟨#[108]⟩,⟨#[116]⟩⟩:=by kernel_rfl
  rw [hf,hg]
  try simp (disch:=(first | exact dz | fail)) only [SXB,SX,reduceIte,Int.reduceLT,Int.reduceLE,Int.reduceToNat,Int.reduceBEq,Int.reduceBNe,Nat.reduceAdd,Nat.reduceMul,Nat.reduceSub,Nat.reduceLeDiff]
  refine X42_34_ok ?_
  unfold X42_34
  try simp (disch:=(first | exact dz | fail)) only [SXB,SX,reduceIte,Int.reduceLT,Int.reduceLE,Int.reduceToNat,Int.reduceBEq,Int.reduceBNe,Nat.reduceAdd,Nat.reduceMul,Nat.reduceSub,Nat.reduceLeDiff]
  first | exact ⟨rfl,rfl⟩ | rfl | trivial
 | false =>
 try simp (disch:=(first | exact dz | fail)) only [SXB,SX,reduceIte,Int.reduceLT,Int.reduceLE,Int.reduceToNat,Int.reduceBEq,Int.reduceBNe,Nat.reduceAdd,Nat.reduceMul,Nat.reduceSub,Nat.reduceLeDiff]
 cases e23:(t.toList == (ByteArray.mk #[108,97,115,116]).toList) with
 | true =>
  have hf:=findS_of (eq_of_beq e23)
  have hg:findS (ByteArray.mk #[108,97,115,116]) sigs=some ⟨⟨#[108,97,115,116]⟩,⟨#[108]⟩,⟨#[116]⟩⟩:=by kernel_rfl
  rw [hf,hg]
  try simp (disch:=(first | exact dz | fail)) only [SXB,SX,reduceIte,Int.reduceLT,Int.reduceLE,Int.reduceToNat,Int.reduceBEq,Int.reduceBNe,Nat.reduceAdd,Nat.reduceMul,Nat.reduceSub,Nat.reduceLeDiff]
  refine X42_34_ok ?_
  unfold X42_34
  try simp (disch:=(first | exact dz | fail)) only [SXB,SX,reduceIte,Int.reduceLT,Int.reduceLE,Int.reduceToNat,Int.reduceBEq,Int.reduceBNe,Nat.reduceAdd,Nat.reduceMul,Nat.reduceSub,Nat.reduceLeDiff]
  first | exact ⟨rfl,rfl⟩ | rfl | trivial
 | false =>
 try simp (disch:=(first | exact dz | fail)) only [SXB,SX,reduceIte,Int.reduceLT,Int.reduceLE,Int.reduceToNat,Int.reduceBEq,Int.reduceBNe,Nat.reduceAdd,Nat.reduceMul,Nat.reduceSub,Nat.reduceLeDiff]
 refine X42_34_ok ?_
 unfold X42_34
 try simp (disch:=(first | exact dz | fail)) only [SXB,SX,reduceIte,Int.reduceLT,Int.reduceLE,Int.reduceToNat,Int.reduceBEq,Int.reduceBNe,Nat.reduceAdd,Nat.reduceMul,Nat.reduceSub,Nat.reduceLeDiff]
 cases e24:(t.toList == (ByteArray.mk #[106,111,105,110]).toList) with
 | true =>
  have hf:=findS_of (eq_of_beq e24)
  have hg:findS (ByteArray.mk #[106,111,105,110]) sigs=some ⟨⟨#[106,111,105,110]⟩,⟨#[108,116]⟩,⟨#[116]⟩⟩:=by kernel_rfl
  rw [hf,hg]
  try simp (disch:=(first | exact dz | fail)) only [SXB,SX,reduceIte,Int.reduceLT,Int.reduceLE,Int.reduceToNat,Int.reduceBEq,Int.reduceBNe,Nat.reduceAdd,Nat.reduceMul,Nat.reduceSub,Nat.reduceLeDiff]
  first | exact ⟨rfl,rfl⟩ | rfl | trivial
 | false =>
 try simp (disch:=(first | exact dz | fail)) only [SXB,SX,reduceIte,Int.reduceLT,Int.reduceLE,Int.reduceToNat,Int.reduceBEq,Int.reduceBNe,Nat.reduceAdd,Nat.reduceMul,Nat.reduceSub,Nat.reduceLeDiff]
 have hn:findS t sigs=none:=by
  have flip:∀ x:ByteArray,(t.toList == x.toList)=false→(x.toList == t.toList)=false:=fun x hx=>by rw [BEq.comm];exact hx
  simp only [findS,sigs,eqT,List.find?_cons,List.find?_nil,flip _ e1,flip _ e2,flip _ e3,flip _ e4,flip _ e5,flip _ e6,flip _ e7,flip _ e8,flip _ e9,flip _ e10,flip _ e11,flip _ e12,flip _ e13,flip _ e14,flip _ e15,flip _ e16,flip _ e17,flip _ e18,flip _ e19,flip _ e20,flip _ e21,flip _ e22,flip _ e23,flip _ e24]
 rw [hn]
 first | exact ⟨rfl,rfl⟩ | rfl | trivial
end Go.Proofs.YtnaenhkldanjbaaDoor.L
end
