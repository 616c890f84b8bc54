import Derived.Test.YtnaenhkldanjbaaDoorZ14
import Derived.Test.YtnaenhkldanjbaaDoorZ15
import Derived.Test.YtnaenhkldanjbaaDoorZ31
set_option linter.unusedVariables false
set_option linter.unusedSimpArgs false
section
namespace Go.Proofs.YtnaenhkldanjbaaDoor.L
open Go.Ab Go.Lang Go.Proofs.YtnaenhkldanjbaaDoor.X
set_option maxRecDepth 100000
theorem bne_self_bytes (t:ByteArray):(t.toList != t.toList)=false:=by simp
def ExprEq (e:Lang.Expr):Prop:=szE e ≤ 100000→∀ h,Ex Tryd.prog 8 [encE e,encE e].toArray h (.bool true) h
theorem sl_at {n i:Nat} {l:List Value} {a:Value} (h:l[i]?=some a) (ha:a.cells.size=n):ia n (slV l) (.int .i64 (i:Nat))=some (FPv a.cells):=by
 rw [slV_of (fun e=>by rw [e] at h;cases h)]
 exact ia_at h ha
theorem ldN_at {n:Nat} {h:AH} {c:Array Value} (hc:c.size=n):ldN n h (FPv c)=some (.agg c):=by
 rw [ldN_fp,if_pos (by omega)]
 congr 2
 rw [← hc];simp
theorem expr_loop {op t:ByteArray} {a n:Nat} {args:List Lang.Expr} {h h1:AH} (hsz:szEs args ≤ 100000) (IH:∀ x ∈ args,ExprEq x)
  (g0:h1.get h.size=some (.cells #[.string op,.int .i64 a,.int .i64 n,.string t,slV (encEs args)] 41 (0,0),none)) (g1:h1.get (h.size + 1)=some (.cells #[.string op,.int .i64 a,.int .i64 n,.string t,slV (encEs args)] 32 (0,0),none)) (K:Kp h.size h h1) :
  ∀ (r:List Lang.Expr) (j:Nat),args.drop j=r→j ≤ args.length→H8_4 (.pointer (some ⟨h.size,0,none⟩)) (.pointer (some ⟨h.size + 1,0,none⟩)) (.int .i64 j) h1 (fun y h'=>y=.ret (.bool true)∧Kp h.size h h'):=by
 have hl:=szEs_len args
 have elen:(encEs args).length=args.length:=by rw [encEs_eq,List.length_map]
 intro r
 induction r with
 | nil =>
  intro j hd hj
  have:=drop_nil hd
  refine X8_4_ok ?_
  unfold X8_4
  have e:¬ ((j:Int) < ((encEs args).length:Nat)):=by omega
  simp (disch:=(first | exact dz | fail)) only [g0,g1,e,SXB,SX,reduceIte,Int.reduceLT,Int.reduceLE,Int.reduceToNat,Int.reduceBEq,Int.reduceBNe,Nat.reduceAdd,Nat.reduceMul,Nat.reduceSub,Nat.reduceLeDiff]
  exact K
 | cons x r ih =>
  intro j hd hj
  obtain ⟨d1,d2,d3⟩:=drop_cons hd
  refine X8_4_ok ?_
  unfold X8_4
  have e:((j:Int) < ((encEs args).length:Nat)):=by omega
  have ea:=sl_at (n:=5) (l:=encEs args) (i:=j) (a:=encE x) (by rw [encEs_eq];simp [d1]) (by rw [encE_cells];simp [celE_len])
  have el:=ldN_at (n:=5) (h:=h1) (c:=(encE x).cells) (by rw [encE_cells];simp [celE_len])
  have ec:Value.agg (encE x).cells=encE x:=by rw [encE_cells,← encE_eq]
  rw [ec] at el
  generalize hl5:ldN 5=l5 at el
  simp (disch:=(first | exact dz | fail)) only [g0,g1,e,ea,el,SXB,SX,reduceIte,Int.reduceLT,Int.reduceLE,Int.reduceToNat,Int.reduceBEq,Int.reduceBNe,Nat.reduceAdd,Nat.reduceMul,Nat.reduceSub,Nat.reduceLeDiff]
  have hxm:x ∈ args:=List.mem_of_getElem? d1
  have hxs:=szE_mem hxm
  refine HC.exact (IH x hxm (by omega) h1) ?_
  have w1:IntKind.i64.wrap ((j:Int) + 1)=((j + 1:Nat):Int):=by rw [wrap64 (by omega) (by omega)];omega
  simp (disch:=(first | exact dz | fail)) only [w1,SXB,SX,reduceIte,Int.reduceLT,Int.reduceLE,Int.reduceToNat,Int.reduceBEq,Int.reduceBNe,Nat.reduceAdd,Nat.reduceMul,Nat.reduceSub,Nat.reduceLeDiff]
  exact ih (j + 1) d2 (by omega)
mutual
theorem expr_eq:∀ e:Lang.Expr,ExprEq e
 | .mk op a n t args=>by
  intro hsz h
  have IH:=exprs_eq args
  rw [szE] at hsz
  rw [encE]
  refine Ex.pureF (.bool _) (X8_ok ?_)
  unfold X8
  have e1:=bne_self_bytes op
  have e2:=bne_self_bytes t
  have e3:((a:Int) != (a:Int))=false:=by simp
  have e4:((n:Int) != (n:Int))=false:=by simp
  have e5:(((encEs args).length:Int) != ((encEs args).length:Int))=false:=by simp
  simp (disch:=(first | exact dz | fail)) only [e1,e2,e3,e4,e5,SXB,SX,reduceIte,Int.reduceLT,Int.reduceLE,Int.reduceToNat,Int.reduceBEq,Int.reduceBNe,Nat.reduceAdd,Nat.reduceMul,Nat.reduceSub,Nat.reduceLeDiff]
  refine expr_loop (h:=h) (by omega) IH ?_ (get_push_eq (by simp)) (by (repeat (first | exact Kp.refl _ _ | assumption | refine Kp.push ?_ _ _ (by first | omega | (simp only [sz_push,sz_put];omega)) | refine Kp.put ?_ _ _ (by first | omega | (simp only [sz_push,sz_put];omega))))) args 0 rfl (by omega)
  rw [get_push_ne (by simp)];exact get_push_eq rfl
theorem exprs_eq:∀ l:List Lang.Expr,∀ x ∈ l,ExprEq x
 | []=>fun x hx=>nomatch hx
 | e::l=>fun x hx=>by
  rcases List.mem_cons.1 hx with h | h
  ·rw [h];exact expr_eq e
  ·exact exprs_eq l x h
end
def StmtsEq (l:List Lang.Stmt):Prop:=szSs l ≤ 100000→∀ h,Ex Tryd.prog 7 [slV (encSs l),slV (encSs l)].toArray h (.bool true) h
def SubEq:Lang.Stmt→Prop
 | .mk _ _ a b body els=>StmtsEq body∧StmtsEq els
theorem lenL_slS (l:List Lang.Stmt):lenL (slV (encSs l))=some (.int .i64 (l.length:Nat)):=by
 rw [lenL_slV,encSs_eq,List.length_map]
theorem stmt_same {h1:AH} {s:Lang.Stmt} {k6 k7 j:Nat} {v:Value} (hs:szS s ≤ 100000) (IH:SubEq s) (hj:j ≤ 100000)
  (g6:h1.get k6=some (.cells (celS s).toArray 76 (0,0),none)) (g7:h1.get k7=some (.cells (celS s).toArray 78 (0,0),none)) {Q:RQ}
  (next:H7_4 v v (.int .i64 (j + 1:Nat)) h1 Q):K7_7 v v (.int .i64 j) (.pointer (some ⟨k6,0,none⟩)) (.pointer (some ⟨k7,0,none⟩)) h1 Q:=by
 obtain ⟨op,x,a,b,body,els⟩:=s
 rw [szS] at hs
 obtain ⟨I1,I2⟩:=IH
 refine X7_7_ok ?_
 unfold X7_7
 have e1:=bne_self_bytes op
 have e2:=bne_self_bytes x
 have hca:=celE_len a
 have hcb:=celE_len b
 have a6:∀ k c,h1.get k=some (.cells (celS (.mk op x a b body els)).toArray c (0,0),none)→ldN 5 h1 (.pointer (some ⟨k,2,none⟩))=some (encE a):=fun k c g=>by
  rw [ldN_ptr,g,rowC_cells,Option.bind_some,if_pos (by simp [celS,celE_len])]
  rw [encE_eq]
  congr 3
  simp [celS,List.extract_eq_take_drop,hca]
 have b6:∀ k c,h1.get k=some (.cells (celS (.mk op x a b body els)).toArray c (0,0),none)→ldN 5 h1 (.pointer (some ⟨k,7,none⟩))=some (encE b):=fun k c g=>by
  rw [ldN_ptr,g,rowC_cells,Option.bind_some,if_pos (by simp [celS,celE_len])]
  rw [encE_eq]
  congr 3
  simp [celS,List.extract_eq_take_drop,hca,hcb]
 have c6:(celS (.mk op x a b body els)).toArray[12]?=some (slV (encSs body)):=by
  simp [celS,hca,hcb,List.getElem?_append]
 have d6:(celS (.mk op x a b body els)).toArray[13]?=some (slV (encSs els)):=by
  simp [celS,hca,hcb,List.getElem?_append]
 have p0:(celS (.mk op x a b body els)).toArray[0]?=some (.string op):=rfl
 have p1:(celS (.mk op x a b body els)).toArray[1]?=some (.string x):=rfl
 have q1:=a6 k6 _ g6
 have q2:=a6 k7 _ g7
 have q3:=b6 k6 _ g6
 have q4:=b6 k7 _ g7
 generalize (celS (.mk op x a b body els)).toArray=cc at g6 g7 c6 d6 p0 p1
 have l0:ld1 h1 (.pointer (some ⟨k6,0,none⟩))=some (.string op):=by rw [ld1_ptr,g6,rowC_cells,Option.bind_some,p0]
 generalize hl5:ldN 5=l5 at q1 q2 q3 q4
 have w1:IntKind.i64.wrap ((j:Int) + 1)=((j + 1:Nat):Int):=by rw [wrap64 (by omega) (by omega)];omega
 simp (disch:=(first | exact dz | fail)) only [g6,g7,p0,p1,e1,e2,q1,q2,SXB,SX,reduceIte,Int.reduceLT,Int.reduceLE,Int.reduceToNat,Int.reduceBEq,Int.reduceBNe,Nat.reduceAdd,Nat.reduceMul,Nat.reduceSub,Nat.reduceLeDiff]
 refine HC.exact (expr_eq a (by omega) h1) ?_
 simp (disch:=(first | exact dz | fail)) only [q3,q4,SXB,SX,reduceIte,Int.reduceLT,Int.reduceLE,Int.reduceToNat,Int.reduceBEq,Int.reduceBNe,Nat.reduceAdd,Nat.reduceMul,Nat.reduceSub,Nat.reduceLeDiff]
 refine HC.exact (expr_eq b (by omega) h1) ?_
 simp (disch:=(first | exact dz | fail)) only [g6,g7,c6,SXB,SX,reduceIte,Int.reduceLT,Int.reduceLE,Int.reduceToNat,Int.reduceBEq,Int.reduceBNe,Nat.reduceAdd,Nat.reduceMul,Nat.reduceSub,Nat.reduceLeDiff]
 refine HC.exact (I1 (by omega) h1) ?_
 simp (disch:=(first | exact dz | fail)) only [g6,g7,d6,SXB,SX,reduceIte,Int.reduceLT,Int.reduceLE,Int.reduceToNat,Int.reduceBEq,Int.reduceBNe,Nat.reduceAdd,Nat.reduceMul,Nat.reduceSub,Nat.reduceLeDiff]
 refine HC.exact (I2 (by omega) h1) ?_
 simp (disch:=(first | exact dz | fail)) only [w1,SXB,SX,reduceIte,Int.reduceLT,Int.reduceLE,Int.reduceToNat,Int.reduceBEq,Int.reduceBNe,Nat.reduceAdd,Nat.reduceMul,Nat.reduceSub,Nat.reduceLeDiff]
 exact next
theorem block_loop2 {l:List Lang.Stmt} {h:AH} (hsz:szSs l ≤ 100000) (IH:∀ s ∈ l,SubEq s):∀ (r:List Lang.Stmt) (j:Nat) (h1:AH),l.drop j=r→j ≤ l.length→Kp h.size h h1→H7_4 (slV (encSs l)) (slV (encSs l)) (.int .i64 j) h1 (fun y h'=>y=.ret (.bool true)∧Kp h.size h h'):=by
 have hl:=szSs_len l
 intro r
 induction r with
 | nil =>
  intro j h1 hd hj K
  have:=drop_nil hd
  refine X7_4_ok ?_
  unfold X7_4
  have e:¬ ((j:Int) < (l.length:Nat)):=by omega
  have el:=lenL_slS l
  generalize slV (encSs l)=v at el ⊢
  simp (disch:=(first | exact dz | fail)) only [el,e,SXB,SX,reduceIte,Int.reduceLT,Int.reduceLE,Int.reduceToNat,Int.reduceBEq,Int.reduceBNe,Nat.reduceAdd,Nat.reduceMul,Nat.reduceSub,Nat.reduceLeDiff]
  exact K
 | cons s r ih =>
  intro j h1 hd hj K
  obtain ⟨d1,d2,d3⟩:=drop_cons hd
  refine X7_4_ok ?_
  unfold X7_4
  have e:((j:Int) < (l.length:Nat)):=by omega
  have el:=lenL_slS l
  have ecs:(encS s).cells.size=14:=by rw [encS_cells];simp [celS_len]
  have ea:=sl_at (n:=14) (l:=encSs l) (i:=j) (a:=encS s) (by rw [encSs_eq];simp [d1]) ecs
  have el2:=fun h1=>ldN_at (n:=14) (h:=h1) (c:=(encS s).cells) ecs
  have hxm:s ∈ l:=List.mem_of_getElem? d1
  have hxs:=szS_mem hxm
  have K2:=ih (j + 1)
  generalize hv:slV (encSs l)=v at el ea K2 ⊢
  have hks:=K.size
  generalize hs14:stN 14=s14
  generalize hl14:ldN 14=l14 at el2
  simp (disch:=(first | exact dz | fail)) only [el,e,ea,el2,SXB,SX,reduceIte,Int.reduceLT,Int.reduceLE,Int.reduceToNat,Int.reduceBEq,Int.reduceBNe,Nat.reduceAdd,Nat.reduceMul,Nat.reduceSub,Nat.reduceLeDiff]
  subst hs14 hl14
  have one:∀ z ∈ (encS s).cells.toList,z.oneCell' = true:=fun z hz=>celS_one s z (by rw [encS_cells] at hz;simpa using hz)
  have hc:=encS_cells s
  refine ⟨?_,?_⟩
  ·refine bq_of (stN_full (v:=.agg (encS s).cells) (by rw [get_push_ne (by simp)];exact get_push_eq rfl) rfl ecs one) ?_
   refine bq_of (stN_full (v:=.agg (encS s).cells) (by rw [get_put_ne (by omega)];exact get_push_eq (by simp)) rfl ecs one) ?_
   refine stmt_same (s:=s) (by omega) (IH s hxm) (by omega) (by rw [get_put_ne (by omega),← hc];exact get_put_eq rfl) (by rw [← hc];exact get_put_eq rfl) (K2 _ d2 (by omega) (by (repeat (first | exact Kp.refl _ _ | assumption | refine Kp.push ?_ _ _ (by first | omega | (simp only [sz_push,sz_put];omega)) | refine Kp.put ?_ _ _ (by first | omega | (simp only [sz_push,sz_put];omega))))))
  ·refine bq_of (stN_full (v:=.agg (encS s).cells) (by exact get_push_eq (by simp)) rfl ecs one) ?_
   refine bq_of (stN_full (v:=.agg (encS s).cells) (by rw [get_put_ne (by omega),get_push_ne (by simp)];exact get_push_eq rfl) rfl ecs one) ?_
   refine stmt_same (s:=s) (by omega) (IH s hxm) (by omega) (by rw [get_put_ne (by omega),← hc];exact get_put_eq rfl) (by rw [← hc];exact get_put_eq rfl) (K2 _ d2 (by omega) (by (repeat (first | exact Kp.refl _ _ | assumption | refine Kp.push ?_ _ _ (by first | omega | (simp only [sz_push,sz_put];omega)) | refine Kp.put ?_ _ _ (by first | omega | (simp only [sz_push,sz_put];omega))))))
theorem block_of {l:List Lang.Stmt} (IH:∀ s ∈ l,SubEq s):StmtsEq l:=fun hsz h=>by
 refine Ex.pureF (.bool _) (X7_ok ?_)
 unfold X7
 have el:=lenL_slS l
 have e1:(((l.length:Nat):Int) != ((l.length:Nat):Int))=false:=by simp
 have fin:=block_loop2 (h:=h) hsz IH l 0 h rfl (by omega) (.refl _ _)
 generalize slV (encSs l)=v at el fin ⊢
 simp (disch:=(first | exact dz | fail)) only [el,e1,SXB,SX,reduceIte,Int.reduceLT,Int.reduceLE,Int.reduceToNat,Int.reduceBEq,Int.reduceBNe,Nat.reduceAdd,Nat.reduceMul,Nat.reduceSub,Nat.reduceLeDiff]
 exact fin
mutual
theorem sub_eq:∀ s:Lang.Stmt,SubEq s
 | .mk _ _ _ _ body els=>⟨block_of (subs_eq body),block_of (subs_eq els)⟩
theorem subs_eq:∀ l:List Lang.Stmt,∀ s ∈ l,SubEq s
 | []=>fun s hs=>nomatch hs
 | e::l=>fun s hs=>by
  rcases List.mem_cons.1 hs with h | h
  ·rw [h];exact sub_eq e
  ·exact subs_eq l s h
end
theorem block_eq (l:List Lang.Stmt):StmtsEq l:=block_of (subs_eq l)
end Go.Proofs.YtnaenhkldanjbaaDoor.L
end
section
namespace Go.Proofs.YtnaenhkldanjbaaDoor.L
open Go.Ab Go.Lang Go.Proofs.YtnaenhkldanjbaaDoor.X
theorem kT0:kT ≠ 0:=by decide
theorem kN0:kN ≠ 0:=by decide
theorem kL0:kL ≠ 0:=by decide
theorem emit_spec {vs:List Var} {r:List Tok} {x1 x2:ER} (h1:exprS (expr0 vs) kT (.ok r)=x1) (h2:exprS (expr0 vs) kT (wantS 4 mComma (tailE x1))=x2) :
  (emitF vs r).map (·.2)=wantS 4 mSemi (tailE x2)∧∀ s r',emitF vs r=.ok (s,r')→∃ a ra b rb,x1=.ok (a,ra)∧x2=.ok (b,rb)∧s=.mk wEmit empty a.1 b.1 [] []:=by
 unfold emitF
 rw [ofK_W kT0,show exprW kT (headAt r) (expr0 vs r)=x1 from h1]
 cases x1 with
 | error f=>subst h2;exact ⟨rfl,fun s r' e=>nomatch e⟩
 | ok y =>
  obtain ⟨a,ra⟩:=y
  have e1:wantS 4 mComma (tailE (.ok (a,ra)))=Lang.want 4 mComma ra:=rfl
  rw [e1] at h2
  simp only [Except.map]
  cases hw:Lang.want 4 mComma ra with
  | error f=>rw [hw] at h2;subst h2;exact ⟨rfl,fun s r' e=>nomatch e⟩
  | ok r2 =>
   rw [hw] at h2
   simp only
   rw [ofK_W kT0,show exprW kT (headAt r2) (expr0 vs r2)=x2 from h2]
   cases x2 with
   | error f=>exact ⟨rfl,fun s r' e=>nomatch e⟩
   | ok z =>
    obtain ⟨b,rb⟩:=z
    have e2:wantS 4 mSemi (tailE (.ok (b,rb)))=Lang.want 4 mSemi rb:=rfl
    rw [e2]
    simp only [Except.map]
    cases Lang.want 4 mSemi rb with
    | error f=>exact ⟨rfl,fun s r' e=>nomatch e⟩
    | ok r3=>exact ⟨rfl,fun s r' e=>by cases e;exact ⟨a,ra,b,rb,rfl,rfl,rfl⟩⟩
theorem exprW0 {a:Nat} {x:ER}:exprW 0 a x=x:=by
 cases x with
 | error f=>rfl
 | ok y=>rfl
theorem let_spec {vs:List Var} {r:List Tok} {x1:ER} (h1:exprS (expr0 vs) 0 (wantS 4 mEq (bindS vs (.ok r)))=x1) :
  (letF vs r).map (·.2)=wantS 4 mSemi (tailE x1)∧∀ s v r',letF vs r=.ok ((s,v),r')→∃ n r2 a ra,unboundF vs r=.ok (n,r2)∧x1=.ok (a,ra)∧s=.mk wLet n a.1 .zero [] []∧v=(n,a.2):=by
 unfold letF
 have e0:bindS vs (.ok r)=(Lang.unboundF vs r).map (·.2):=rfl
 rw [e0] at h1
 cases hu:Lang.unboundF vs r with
 | error f=>rw [hu] at h1;subst h1;exact ⟨rfl,fun s v r' e=>nomatch e⟩
 | ok y =>
  obtain ⟨n,r2⟩:=y
  rw [hu] at h1
  have e1:wantS 4 mEq ((Except.ok (n,r2):R (ByteArray × List Tok)).map (·.2))=Lang.want 4 mEq r2:=rfl
  rw [e1] at h1
  simp only
  cases hw:Lang.want 4 mEq r2 with
  | error f=>rw [hw] at h1;subst h1;exact ⟨rfl,fun s v r' e=>nomatch e⟩
  | ok r3 =>
   rw [hw] at h1
   simp only
   have e2:exprS (expr0 vs) 0 (.ok r3)=expr0 vs r3:=exprW0
   rw [e2] at h1
   rw [h1]
   cases x1 with
   | error f=>exact ⟨rfl,fun s v r' e=>nomatch e⟩
   | ok z =>
    obtain ⟨a,ra⟩:=z
    have e3:wantS 4 mSemi (tailE (.ok (a,ra)))=Lang.want 4 mSemi ra:=rfl
    rw [e3]
    simp only
    cases Lang.want 4 mSemi ra with
    | error f=>exact ⟨rfl,fun s v r' e=>nomatch e⟩
    | ok r4=>exact ⟨rfl,fun s v r' e=>by cases e;exact ⟨n,r2,a,ra,rfl,rfl,rfl,rfl⟩⟩
theorem if_spec {blk:BlockRd} {vs:List Var} {r:List Tok} {x1:ER} {b1 b2:BR} (h1:exprS (expr0 vs) kN (.ok r)=x1) (h2:blockS blk false vs (tailE x1)=b1) (h3:blockS blk false vs (tailS (b1.map (·.2)))=b2) :
  (ifF blk vs r).map (·.2)=(if isS (b1.map (·.2)) 1 wElse then b2.map (·.2) else b1.map (·.2))∧∀ s r',ifF blk vs r=.ok (s,r')→∃ a ra l1 r1,x1=.ok (a,ra)∧b1=.ok (l1,r1)∧(isS (b1.map (·.2)) 1 wElse=true→∃ l2 r2,b2=.ok (l2,r2)∧s=.mk wIf empty a.1 .zero l1 l2)∧(isS (b1.map (·.2)) 1 wElse=false→s=.mk wIf empty a.1 .zero l1 []):=by
 unfold ifF
 rw [ofK_W kN0,show exprW kN (headAt r) (expr0 vs r)=x1 from h1]
 cases x1 with
 | error f=>subst h2;subst h3;exact ⟨rfl,fun s r' e=>nomatch e⟩
 | ok y =>
  obtain ⟨a,ra⟩:=y
  have e1:blockS blk false vs (tailE (.ok (a,ra)))=blk false vs ra:=rfl
  rw [e1] at h2
  simp only [Except.map]
  rw [h2]
  cases b1 with
  | error f=>subst h3;exact ⟨rfl,fun s r' e=>nomatch e⟩
  | ok z =>
   obtain ⟨l1,r1⟩:=z
   have e2:isS (Except.ok r1) 1 wElse=isT r1 1 wElse:=rfl
   have e3:blockS blk false vs (tailS ((Except.ok (l1,r1):BR).map (·.2)))=blk false vs r1.tail:=rfl
   rw [e3] at h3
   simp only [e2]
   cases hi:isT r1 1 wElse with
   | false=>exact ⟨rfl,fun s r' e=>by cases e;exact ⟨a,ra,l1,r1,rfl,rfl,(fun h=>nomatch h),fun _=>rfl⟩⟩
   | true =>
    simp only [if_true]
    rw [h3]
    cases b2 with
    | error f=>exact ⟨rfl,fun s r' e=>nomatch e⟩
    | ok w =>
     obtain ⟨l2,r2⟩:=w
     exact ⟨rfl,fun s r' e=>by cases e;exact ⟨a,ra,l1,r1,rfl,rfl,(fun _=>⟨l2,r2,rfl,rfl⟩),fun h=>nomatch h⟩⟩
theorem for_spec {blk:BlockRd} {vs:List Var} {r:List Tok} {n:ByteArray} {x1:ER} {b1:BR} (hn:∀ y r2,unboundF vs r=.ok (y,r2)→y=n) (h1:exprS (expr0 vs) kL (wantS 1 wIn (bindS vs (.ok r)))=x1) (h2:blockS blk true (vs++[(n,kT)]) (tailE x1)=b1) :
  (forF blk vs r).map (·.2)=b1.map (·.2)∧∀ s r',forF blk vs r=.ok (s,r')→∃ a ra l1 r1,x1=.ok (a,ra)∧b1=.ok (l1,r1)∧s=.mk wFor n a.1 .zero l1 []:=by
 unfold forF
 have e0:bindS vs (.ok r)=(Lang.unboundF vs r).map (·.2):=rfl
 rw [e0] at h1
 cases hu:Lang.unboundF vs r with
 | error f=>rw [hu] at h1;subst h1;subst h2;exact ⟨rfl,fun s r' e=>nomatch e⟩
 | ok y =>
  obtain ⟨n',r2⟩:=y
  obtain rfl:=hn _ _ hu
  rw [hu] at h1
  have e1:wantS 1 wIn ((Except.ok (n',r2):R (ByteArray × List Tok)).map (·.2))=Lang.want 1 wIn r2:=rfl
  rw [e1] at h1
  simp only
  cases hw:Lang.want 1 wIn r2 with
  | error f=>rw [hw] at h1;subst h1;subst h2;exact ⟨rfl,fun s r' e=>nomatch e⟩
  | ok r3 =>
   rw [hw] at h1
   simp only
   rw [ofK_W kL0,show exprW kL (headAt r3) (expr0 vs r3)=x1 from h1]
   cases x1 with
   | error f=>subst h2;exact ⟨rfl,fun s r' e=>nomatch e⟩
   | ok z =>
    obtain ⟨a,ra⟩:=z
    have e3:blockS blk true (vs++[(n',kT)]) (tailE (.ok (a,ra)))=blk true (vs++[(n',kT)]) ra:=rfl
    rw [e3] at h2
    simp only [Except.map]
    rw [h2]
    cases b1 with
    | error f=>exact ⟨rfl,fun s r' e=>nomatch e⟩
    | ok w =>
     obtain ⟨l1,r1⟩:=w
     exact ⟨rfl,fun s r' e=>by cases e;exact ⟨a,ra,l1,r1,rfl,rfl,rfl⟩⟩
theorem each_spec {blk:BlockRd} {vs:List Var} {r:List Tok} {n:ByteArray} {x1 x2:ER} {b1:BR} (hn:∀ y r2,unboundF vs r=.ok (y,r2)→y=n) (h1:exprS (expr0 vs) kT (wantS 1 wIn (bindS vs (.ok r)))=x1) (h2:exprS (expr0 vs) kT (wantS 1 wBy (tailE x1))=x2) (h3:blockS blk true (vs++[(n,kT)]) (tailE x2)=b1) :
  (eachF blk vs r).map (·.2)=b1.map (·.2)∧∀ s r',eachF blk vs r=.ok (s,r')→∃ a ra b rb l1 r1,x1=.ok (a,ra)∧x2=.ok (b,rb)∧b1=.ok (l1,r1)∧s=.mk wEach n a.1 b.1 l1 []:=by
 unfold eachF
 have e0:bindS vs (.ok r)=(Lang.unboundF vs r).map (·.2):=rfl
 rw [e0] at h1
 cases hu:Lang.unboundF vs r with
 | error f=>rw [hu] at h1;subst h1;subst h2;subst h3;exact ⟨rfl,fun s r' e=>nomatch e⟩
 | ok y =>
  obtain ⟨n',r2⟩:=y
  obtain rfl:=hn _ _ hu
  rw [hu] at h1
  have e1:wantS 1 wIn ((Except.ok (n',r2):R (ByteArray × List Tok)).map (·.2))=Lang.want 1 wIn r2:=rfl
  rw [e1] at h1
  simp only
  cases hw:Lang.want 1 wIn r2 with
  | error f=>rw [hw] at h1;subst h1;subst h2;subst h3;exact ⟨rfl,fun s r' e=>nomatch e⟩
  | ok r3 =>
   rw [hw] at h1
   simp only
   rw [ofK_W kT0,show exprW kT (headAt r3) (expr0 vs r3)=x1 from h1]
   cases x1 with
   | error f=>subst h2;subst h3;exact ⟨rfl,fun s r' e=>nomatch e⟩
   | ok z =>
    obtain ⟨a,ra⟩:=z
    have e2:wantS 1 wBy (tailE (.ok (a,ra)))=Lang.want 1 wBy ra:=rfl
    rw [e2] at h2
    simp only [Except.map]
    cases hw2:Lang.want 1 wBy ra with
    | error f=>rw [hw2] at h2;subst h2;subst h3;exact ⟨rfl,fun s r' e=>nomatch e⟩
    | ok r4 =>
     rw [hw2] at h2
     simp only
     rw [ofK_W kT0,show exprW kT (headAt r4) (expr0 vs r4)=x2 from h2]
     cases x2 with
     | error f=>subst h3;exact ⟨rfl,fun s r' e=>nomatch e⟩
     | ok z2 =>
      obtain ⟨b,rb⟩:=z2
      have e3:blockS blk true (vs++[(n',kT)]) (tailE (.ok (b,rb)))=blk true (vs++[(n',kT)]) rb:=rfl
      rw [e3] at h3
      simp only [Except.map]
      rw [h3]
      cases b1 with
      | error f=>exact ⟨rfl,fun s r' e=>nomatch e⟩
      | ok w =>
       obtain ⟨l1,r1⟩:=w
       exact ⟨rfl,fun s r' e=>by cases e;exact ⟨a,ra,b,rb,l1,r1,rfl,rfl,rfl,rfl⟩⟩
end Go.Proofs.YtnaenhkldanjbaaDoor.L
end
section
namespace Go.Proofs.YtnaenhkldanjbaaDoor.L
open Go.Ab Go.Lang Go.Proofs.YtnaenhkldanjbaaDoor.X
set_option maxRecDepth 100000
def OkS (st:LS):Prop:=∀ ts,st=.ok ts→TokOK ts
theorem RS.oks {h:AH} {kp i:Nat} {T:List Tok} {st:LS} {bv:Value} {vs:List Var} {b l c:Nat} (S:RS h kp T i st bv vs b l c):OkS st:=fun ts e=>by subst e;exact S.okl
theorem lenS_wantS {st:LS} {k:Nat} {y:ByteArray} (hk:k ≠ 0) (ok:OkS st):lenS (wantS k y st) ≤ lenS st:=by
 cases st with
 | error f=>exact Nat.le_refl _
 | ok ts =>
  show lenS (Lang.want k y ts) ≤ ts.length
  cases hw:Lang.want k y ts with
  | error f=>exact Nat.zero_le _
  | ok r=>exact Nat.le_of_lt (want_shr hw hk (ok _ rfl)).2
theorem lenS_exprS {st:LS} {vs:List Var} {w:Nat} (hv:VsOK vs) (ok:OkS st):lenS (tailE (exprS (expr0 vs) w st)) ≤ lenS st:=by
 cases st with
 | error f=>exact Nat.le_refl _
 | ok ts =>
  cases hx:exprS (expr0 vs) w (.ok ts) with
  | error f=>exact Nat.zero_le _
  | ok y =>
   obtain ⟨y,r⟩:=y
   exact Nat.le_of_lt (exprS_shr (expr0_ok hv) (ok _ rfl) hx).2
theorem lenS_bindS {st:LS} {vs:List Var} (ok:OkS st):lenS (bindS vs st) ≤ lenS st:=by
 cases st with
 | error f=>exact Nat.le_refl _
 | ok ts =>
  show lenS ((Lang.unboundF vs ts).map (·.2)) ≤ ts.length
  cases hu:Lang.unboundF vs ts with
  | error f=>exact Nat.zero_le _
  | ok y=>obtain ⟨y,r⟩:=y;exact Nat.le_of_lt (unbound_shr hu (ok _ rfl)).2
theorem lenS_tailS {st:LS}:lenS (tailS st) ≤ lenS st:=by
 cases st with
 | error f=>exact Nat.le_refl _
 | ok ts=>show ts.tail.length ≤ ts.length;simp
theorem lenS_blockS {st:LS} {blk:BlockRd} {loop:Bool} {vs:List Var} (hb:BlkOK blk) (hv:VsOK vs) (ok:OkS st):lenS ((blockS blk loop vs st).map (·.2)) ≤ lenS st:=by
 cases st with
 | error f=>exact Nat.le_refl _
 | ok ts =>
  cases hx:blockS blk loop vs (.ok ts) with
  | error f=>exact Nat.zero_le _
  | ok y=>obtain ⟨y,r⟩:=y;exact Nat.le_of_lt (hb _ _ _ _ _ hv (ok _ rfl) hx).2
theorem remit {h h1:AH} {kp i M:Nat} {T r:List Tok} {t:Tok} {bv:Value} {vs:List Var} {b l:Nat} {blk:BlockRd} (hv:VsNZ vs) (hl:vs.length ≤ 1048576) (hc:t.cls=1) (hw:t.text=wEmit) (x:RT h h1 kp T i (.ok (t::r)) t bv bv vs b l (.mk wEmit empty .zero .zero [] [])) :
  K31_6 (.pointer (some ⟨kp,0,none⟩)) (.pointer (some ⟨h.size,0,none⟩)) (.pointer (some ⟨h.size + 1,0,none⟩)) (.pointer (some ⟨h.size + 2,0,none⟩)) (.string wEmit) h1 (SPostR kp T bv vs b l h (stmtF blk vs (t::r))):=by
 refine X31_6_ok ?_
 unfold X31_6
 have hspec:stmtF blk vs (t::r)=(emitF vs r).map fun p=>((p.1,vs),p.2):=by
  unfold stmtF
  have e1:eqT t.text wEmit=true:=by rw [hw];kernel_rfl
  simp [hc,e1]
 have e1:(wEmit.toList == (ByteArray.mk #[101,109,105,116]).toList)=true:=by kernel_rfl
 have hok:=x.S.okl
 generalize hs1:stN 1=s1
 generalize hs5:stN 5=s5
 simp (disch:=(first | exact dz | fail)) only [e1,SXB,SX,reduceIte,Int.reduceLT,Int.reduceLE,Int.reduceToNat,Int.reduceBEq,Int.reduceBNe,Nat.reduceAdd,Nat.reduceMul,Nat.reduceSub,Nat.reduceLeDiff]
 subst hs1 hs5
 refine x.next (fun ts e=>by cases e;exact (hok.tail (by omega)).ne) fun h2 i2 x2=>?_
 change RT h h2 kp T i2 (.ok r) t bv bv vs b l _ at x2
 simp only [RK,Nat.reduceAdd]
 refine x2.expr hv hl 116 (by decide) fun h3 i3 a ka x3 ya=>?_
 simp only [resK_ret]
 refine bq_of (x:=encE a) rfl ?_
 refine bq_of (x:=.int .u8 (ka:Nat)) rfl ?_
 refine bq_of x3.setA ?_
 have x4:=x3.set (s':=.mk wEmit empty a .zero [] [])
 refine x4.want 4 mComma (by omega) fun h5 i5 x5=>?_
 simp only [RK,Nat.reduceAdd]
 refine x5.expr hv hl 116 (by decide) fun h6 i6 a2 ka2 x6 ya2=>?_
 simp only [resK_ret]
 refine bq_of (x:=encE a2) rfl ?_
 refine bq_of (x:=.int .u8 (ka2:Nat)) rfl ?_
 refine bq_of x6.setB ?_
 have x7:=x6.set (s':=.mk wEmit empty a a2 [] [])
 refine x7.want 4 mSemi (by omega) fun h8 i8 x8=>?_
 simp only [RK,Nat.reduceAdd]
 obtain ⟨sp1,sp2⟩:=emit_spec (vs:=vs) (r:=r) rfl rfl
 refine x8.fin (ex:=[]) (by simp) (by simp) ?_ ?_
 ·rw [hspec,← sp1]
  cases emitF vs r <;> rfl
 ·intro y r' hy
  rw [hspec] at hy
  cases hem:emitF vs r with
  | error f=>rw [hem] at hy;cases hy
  | ok z =>
   obtain ⟨s,r''⟩:=z
   rw [hem] at hy
   cases hy
   obtain ⟨p1,q1,p2,q2,k1,k2,k3⟩:=sp2 _ _ hem
   have:=ya _ _ k1
   have:=ya2 _ _ k2
   subst p1 p2
   rw [k3]
end Go.Proofs.YtnaenhkldanjbaaDoor.L
end
section
namespace Go.Proofs.YtnaenhkldanjbaaDoor.L
open Go.Ab Go.Lang Go.Proofs.YtnaenhkldanjbaaDoor.X
set_option maxRecDepth 100000
theorem rlet {h h1:AH} {kp i:Nat} {T r:List Tok} {t:Tok} {bv:Value} {vs:List Var} {b l:Nat} {blk:BlockRd} (hv:VsNZ vs) (hl:vs.length ≤ 100000) (hc:t.cls=1) (hw:t.text=wLet) (x:RT h h1 kp T i (.ok (t::r)) t bv bv vs b l (.mk wLet empty .zero .zero [] [])) :
  K31_6 (.pointer (some ⟨kp,0,none⟩)) (.pointer (some ⟨h.size,0,none⟩)) (.pointer (some ⟨h.size + 1,0,none⟩)) (.pointer (some ⟨h.size + 2,0,none⟩)) (.string wLet) h1 (SPostR kp T bv vs b l h (stmtF blk vs (t::r))):=by
 refine X31_6_ok ?_
 unfold X31_6
 have hspec:stmtF blk vs (t::r)=(letF vs r).map fun p=>((p.1.1,vs++[p.1.2]),p.2):=by
  unfold stmtF
  have e1:eqT t.text wEmit=false:=by rw [hw];kernel_rfl
  have e2:eqT t.text wLet=true:=by rw [hw];kernel_rfl
  simp [hc,e1,e2]
 have e1:(wLet.toList == (ByteArray.mk #[101,109,105,116]).toList)=false:=by kernel_rfl
 have e2:(wLet.toList == (ByteArray.mk #[108,101,116]).toList)=true:=by kernel_rfl
 have hok:=x.S.okl
 generalize hs1:stN 1=s1
 generalize hs5:stN 5=s5
 generalize hl5:ldN 5=l5
 generalize hl1:ld1=l1
 simp (disch:=(first | exact dz | fail)) only [e1,e2,SXB,SX,reduceIte,Int.reduceLT,Int.reduceLE,Int.reduceToNat,Int.reduceBEq,Int.reduceBNe,Nat.reduceAdd,Nat.reduceMul,Nat.reduceSub,Nat.reduceLeDiff]
 subst hs1 hs5 hl5 hl1
 refine x.next (fun ts e=>by cases e;exact (hok.tail (by omega)).ne) fun h2 i2 x2=>?_
 change RT h h2 kp T i2 (.ok r) t bv bv vs b l _ at x2
 simp only [RK,Nat.reduceAdd]
 refine x2.bind hv (by omega) fun h3 i3 n x3 hn=>?_
 simp only [RK,Nat.reduceAdd]
 refine bq_of x3.setName ?_
 have x4:=x3.set (s':=.mk wLet n .zero .zero [] [])
 refine x4.want 4 mEq (by omega) fun h5 i5 x5=>?_
 simp only [RK,Nat.reduceAdd]
 refine x5.expr hv (by omega) 0 (by decide) fun h6 i6 a ka x6 ya=>?_
 simp only [resK_ret]
 refine bq_of (x:=encE a) rfl ?_
 refine bq_of (x:=.int .u8 (ka:Nat)) rfl ?_
 have ea:Value.agg (encE a).cells=encE a:=by rw [encE_cells,← encE_eq]
 refine bq_of (stN_full (get_push_eq rfl) rfl (by rw [encE_cells];simp [celE_len]) (fun z hz=>celE_one a z (by rw [encE_cells] at hz;simpa using hz))) ?_
 refine bq_of (ldN_full (get_put_eq rfl) (by rw [encE_cells];simp [celE_len])) ?_
 rw [ea]
 have z6:=x6.size
 have x7:=(x6.push (.cells #[.string ⟨#[]⟩,.int .i64 0,.int .i64 0,.string ⟨#[]⟩,.slice none 0 0] 32 (0,0))).off (q:=h6.size) (some (.cells (encE a).cells 32 (0,0),none)) z6 (fun k hk=>by have:=x6.S.ltb k hk;omega)
 refine bq_of x7.setA ?_
 have x8:=x7.set (s':=.mk wLet n a .zero [] [])
 refine x8.want 4 mSemi (by omega) fun h8 i8 x9=>?_
 have hk:ka < 256 ∨ True:=.inr trivial
 simp only [resK_ret]
 have z8:=x9.size
 have hlt8:=x9.S.lt
 refine bq_of (x:=bv) (by rw [ld1_ptr,x9.S.any];rfl) ?_
 refine bq_of (x:=.string n) (by rw [ld1_ptr,x9.out];rfl) ?_
 refine bq_of (x:=encV (n,ka)) rfl ?_
 refine bq_of (x:=(Value.slice (some ⟨h8.size,0,none⟩) 1 1,h8.push (.cells #[.string n,.int .u8 ka] 65 (0,0)) none)) rfl ?_
 refine ⟨bq_of (x:=bv) (by rw [ld1_ptr,get_push_ne (by omega),x9.S.any];rfl) rfl,?_⟩
 obtain ⟨s',h9,q1,q2,q3,q4,q5⟩:=x9.S.own.append1 (v:=encV (n,ka)) (c:=#[.string n,.int .u8 ka]) (bytes:=24) (zero:=.agg #[.string ⟨#[]⟩,.int .u8 0]) rfl x9.S.ltb (encVs_size vs) rfl (fun z hz=>by simp at hz;rcases hz with rfl | rfl <;> rfl) (by omega) (by omega) (by omega) rfl (by rw [List.length_map];omega)
 refine bq_of q1 ?_
 obtain ⟨y1,y2,y3,rfl⟩:=q2.isSl
 have gk9:=(q4 kp x9.S.lt x9.S.ne).trans x9.S.any
 generalize her:erOf (wantS 4 mSemi (tailE (exprS (expr0 vs) 0 (wantS 4 mEq (bindS vs (.ok r))))))=er at gk9
 simp (disch:=(first | exact dz | fail)) only [gk9,SXB,SX,reduceIte,Int.reduceLT,Int.reduceLE,Int.reduceToNat,Int.reduceBEq,Int.reduceBNe,Nat.reduceAdd,Nat.reduceMul,Nat.reduceSub,Nat.reduceLeDiff]
 have hbn:blkOf (.slice y1 y2 y3) ≠ some kp:=fun e=>by
  rcases q5 with h | ⟨k,h,h1,h2⟩
  ·exact x9.S.ne (h ▸ e)
  ·rw [h] at e;cases e;omega
 have B9:Bv h8 bv (.slice y1 y2 y3):=fun j hj=>by
  rcases q5 with h | ⟨k',h,h1,h2⟩
  ·rw [h] at hj;exact .inl hj
  ·rw [h] at hj;cases hj;exact .inr h1
 have g9:∀ k,k < h8.size→k ≠ kp→blkOf bv ≠ some k→(h9.put kp (rrow T i8 (.slice y1 y2 y3) b l 0 er)).get k=h8.get k:=fun k h1 h2 h4=>by
  rw [get_put_ne h2,q4 k h1 h4]
 have hlt:=x.lt
 have x10:RT h (h9.put kp (rrow T i8 (.slice y1 y2 y3) b l 0 er)) kp T i8 (wantS 4 mSemi (tailE (exprS (expr0 vs) 0 (wantS 4 mEq (bindS vs (.ok r)))))) t bv (.slice y1 y2 y3) (vs++[(n,ka)]) b l (.mk wLet n a .zero [] []):=by
  have nb:∀ q,h.size ≤ q→q < h.size + 3→blkOf bv ≠ some q:=fun q h1 h2 e=>by have:=x9.hb q e;omega
  refine ⟨(g9 _ (by omega) (by omega) (nb _ (by omega) (by omega))).trans x9.res,(g9 _ (by omega) (by omega) (nb _ (by omega) (by omega))).trans x9.tok,(g9 _ (by omega) (by omega) (nb _ (by omega) (by omega))).trans x9.out,by rw [sz_put];omega,?_,x9.A.trans ⟨by rw [sz_put];exact q3,g9⟩ x9.B,x9.B.trans B9 x9.A.size,fun j hj=>?_,hlt⟩
  ·refine ⟨by rw [her];exact get_put_eq rfl,?_,hbn,by rw [sz_put];omega,fun j hj=>?_,x9.S.ilt,x9.S.ok,x9.S.len,x9.S.at_⟩
   ·rw [List.map_append]
    exact q2.mono fun k hk=>get_put_ne fun e=>hbn (by rw [hk,e])
   ·rw [sz_put]
    rcases q5 with h | ⟨k',h,h1,h2⟩
    ·rw [h] at hj;have:=x9.S.ltb j hj;omega
    ·rw [h] at hj;cases hj;exact h2
  ·rcases B9 j hj with h | h
   ·exact x9.hb j h
   ·exact .inr (by omega)
 obtain ⟨sp1,sp2⟩:=let_spec (vs:=vs) (r:=r) rfl
 refine x10.fin (ex:=[(n,ka)]) rfl (by simp) ?_ ?_
 ·rw [hspec,← sp1]
  cases letF vs r <;> rfl
 ·intro y r' hy
  rw [hspec] at hy
  cases hem:letF vs r with
  | error f=>rw [hem] at hy;cases hy
  | ok z =>
   obtain ⟨⟨s,v⟩,r''⟩:=z
   rw [hem] at hy
   cases hy
   obtain ⟨n',r2,p1,q1,k1,k2,k3,k4⟩:=sp2 _ _ _ hem
   have:=ya _ _ k2
   have:=hn _ _ _ rfl k1
   subst p1 n'
   rw [k3,k4]
theorem rif {h h1:AH} {kp i M:Nat} {T r:List Tok} {t:Tok} {bv:Value} {vs:List Var} {b l:Nat} {blk:BlockRd} (HB:RBlockOK kp T b l blk M) (hblk:BlkOK blk) (hM:r.length ≤ M) (hv:VsNZ vs) (hl:vs.length + r.length ≤ 100000) (hc:t.cls=1) (hw:t.text=wIf) (x:RT h h1 kp T i (.ok (t::r)) t bv bv vs b l (.mk wIf empty .zero .zero [] [])) :
  K31_6 (.pointer (some ⟨kp,0,none⟩)) (.pointer (some ⟨h.size,0,none⟩)) (.pointer (some ⟨h.size + 1,0,none⟩)) (.pointer (some ⟨h.size + 2,0,none⟩)) (.string wIf) h1 (SPostR kp T bv vs b l h (stmtF blk vs (t::r))):=by
 refine X31_6_ok ?_
 unfold X31_6
 have hspec:stmtF blk vs (t::r)=(ifF blk vs r).map fun p=>((p.1,vs),p.2):=by
  unfold stmtF
  have e1:eqT t.text wEmit=false:=by rw [hw];kernel_rfl
  have e2:eqT t.text wLet=false:=by rw [hw];kernel_rfl
  have e3:eqT t.text wIf=true:=by rw [hw];kernel_rfl
  simp [hc,e1,e2,e3]
 have e1:(wIf.toList == (ByteArray.mk #[101,109,105,116]).toList)=false:=by kernel_rfl
 have e2:(wIf.toList == (ByteArray.mk #[108,101,116]).toList)=false:=by kernel_rfl
 have e3:(wIf.toList == (ByteArray.mk #[105,102]).toList)=true:=by kernel_rfl
 have hok:=x.S.okl
 generalize hs1:stN 1=s1
 generalize hs5:stN 5=s5
 simp (disch:=(first | exact dz | fail)) only [e1,e2,e3,SXB,SX,reduceIte,Int.reduceLT,Int.reduceLE,Int.reduceToNat,Int.reduceBEq,Int.reduceBNe,Nat.reduceAdd,Nat.reduceMul,Nat.reduceSub,Nat.reduceLeDiff]
 subst hs1 hs5
 refine x.next (fun ts e=>by cases e;exact (hok.tail (by omega)).ne) fun h2 i2 x2=>?_
 change RT h h2 kp T i2 (.ok r) t bv bv vs b l _ at x2
 simp only [RK,Nat.reduceAdd]
 refine x2.expr hv (by omega) 110 (by decide) fun h3 i3 a ka x3 ya=>?_
 simp only [resK_ret]
 refine bq_of (x:=encE a) rfl ?_
 refine bq_of (x:=.int .u8 (ka:Nat)) rfl ?_
 refine bq_of x3.setA ?_
 have x4:=x3.set (s':=.mk wIf empty a .zero [] [])
 have l1:lenS (tailE (exprS (expr0 vs) 110 (.ok r))) ≤ r.length:=lenS_exprS hv.ok x2.S.oks
 refine x4.block HB (more:=[]) (loop:=false) (by omega) hv (fun v hv=>nomatch hv) (by simp;omega) (fun h' A=>Src.nil (n:=0)) fun h5 i5 bv5 ss x5 ys=>?_
 rw [List.append_nil] at x5 ys
 simp only [RK,Nat.reduceAdd]
 refine bq_of x5.setBody ?_
 have x6:=x5.set (s':=.mk wIf empty a .zero ss [])
 have l2:=lenS_blockS (loop:=false) hblk hv.ok x4.S.oks
 generalize hb1:blockS blk false vs (tailE (exprS (expr0 vs) 110 (.ok r)))=b1 at x5 x6 ys l2
 generalize hx1:exprS (expr0 vs) 110 (.ok r)=x1 at ya hb1 l1 l2
 obtain ⟨sp1,sp2⟩:=if_spec (blk:=blk) (vs:=vs) (r:=r) hx1 hb1 rfl
 refine HC.exact (risT x6.S 1 wElse) ?_
 cases he:isS (b1.map (·.2)) 1 wElse with
 | false =>
  rw [he] at sp1 sp2
  simp (disch:=(first | exact dz | fail)) only [SXB,SX,reduceIte,Int.reduceLT,Int.reduceLE,Int.reduceToNat,Int.reduceBEq,Int.reduceBNe,Nat.reduceAdd,Nat.reduceMul,Nat.reduceSub,Nat.reduceLeDiff]
  refine x6.fin (ex:=[]) (by simp) (by simp) ?_ ?_
  ·rw [hspec]
   simp only [Bool.false_eq_true,if_false] at sp1
   rw [← sp1]
   cases ifF blk vs r <;> rfl
  ·intro y r' hy
   rw [hspec] at hy
   cases hem:ifF blk vs r with
   | error f=>rw [hem] at hy;cases hy
   | ok z =>
    obtain ⟨s,r''⟩:=z
    rw [hem] at hy
    cases hy
    obtain ⟨p1,q1,l1,r1,k1,k2,_,k4⟩:=sp2 _ _ hem
    have:=ya _ _ k1
    have:=ys _ _ k2
    subst p1 l1
    rw [k4 rfl]
 | true =>
  rw [he] at sp1 sp2
  simp only [if_true] at sp1
  generalize hs1:stN 1=s1
  simp (disch:=(first | exact dz | fail)) only [SXB,SX,reduceIte,Int.reduceLT,Int.reduceLE,Int.reduceToNat,Int.reduceBEq,Int.reduceBNe,Nat.reduceAdd,Nat.reduceMul,Nat.reduceSub,Nat.reduceLeDiff]
  subst hs1
  have hne:∀ ts,b1.map (·.2)=.ok ts→ts.tail ≠ []:=fun ts e=>by
   have h1:isS (.ok ts) 1 wElse=true:=by rw [← e];exact he
   exact (isT_shr h1 (by omega) (x6.S.oks ts e)).1.ne
  refine x6.next hne fun h7 i7 x7=>?_
  simp only [RK,Nat.reduceAdd]
  have l3:lenS (tailS (b1.map (·.2))) ≤ lenS (b1.map (·.2)):=lenS_tailS
  refine x7.block HB (more:=[]) (loop:=false) (by omega) hv (fun v hv=>nomatch hv) (by simp;omega) (fun h' A=>Src.nil (n:=0)) fun h8 i8 bv8 ss2 x8 ys2=>?_
  rw [List.append_nil] at x8 ys2
  simp only [RK,Nat.reduceAdd]
  refine bq_of x8.setElse ?_
  have x9:=x8.set (s':=.mk wIf empty a .zero ss ss2)
  refine x9.fin (ex:=[]) (by simp) (by simp) ?_ ?_
  ·rw [hspec,← sp1]
   cases ifF blk vs r <;> rfl
  ·intro y r' hy
   rw [hspec] at hy
   cases hem:ifF blk vs r with
   | error f=>rw [hem] at hy;cases hy
   | ok z =>
    obtain ⟨s,r''⟩:=z
    rw [hem] at hy
    cases hy
    obtain ⟨p1,q1,l1,r1,k1,k2,k3,_⟩:=sp2 _ _ hem
    obtain ⟨m2,r2,k5,k6⟩:=k3 rfl
    have:=ya _ _ k1
    have:=ys _ _ k2
    have:=ys2 _ _ k5
    subst p1 l1 m2
    rw [k6]
theorem rloop {h h1:AH} {kp i M:Nat} {T:List Tok} {t:Tok} {bv bv1:Value} {vs:List Var} {b l:Nat} {blk:BlockRd} {st:LS} {op n:ByteArray} {a c:Lang.Expr} {rs:SR} {b1:BR} (HB:RBlockOK kp T b l blk M) (hM:lenS st ≤ M) (hv:VsNZ vs) (hl:vs.length + 1 + lenS st ≤ 100000) (x:RT h h1 kp T i st t bv bv1 vs b l (.mk op n a c [] []))
  (hb1:blockS blk true (vs++[(n,kT)]) st=b1) (h1s:rs.map (·.2)=b1.map (·.2)) (h2s:∀ y r,rs=.ok (y,r)→∃ ss r1,b1=.ok (ss,r1)∧y=(.mk op n a c ss [],vs)) :
  K31_39 (.pointer (some ⟨kp,0,none⟩)) (.pointer (some ⟨h.size,0,none⟩)) (.pointer (some ⟨h.size + 2,0,none⟩)) h1 (SPostR kp T bv vs b l h rs):=by
 refine X31_39_ok ?_
 unfold X31_39
 have hs:=x.size
 have hlt:=x.S.lt
 refine bq_of fa_ptr ?_
 refine bq_of (x:=.string n) (by rw [ld1_ptr,x.out];rfl) ?_
 refine bq_of (x:=encV (n,kT)) rfl ?_
 refine bq_of (x:=(Value.slice (some ⟨h1.size,0,none⟩) 1 1,h1.push (.cells #[.string n,.int .u8 116] 65 (0,0)) none)) rfl ?_
 have x2:=x.push (.cells #[.string n,.int .u8 116] 65 (0,0))
 refine x2.block HB (more:=[(n,kT)]) (loop:=true) hM hv (fun v hv=>by rw [List.mem_singleton.1 hv];exact ⟨by show kT ≠ 0;decide,by show kT < 256;decide⟩) (by simp;omega) (fun h' A=>?_) fun h3 i3 bv3 ss x3 ys=>?_
 ·refine Src.row (k:=h1.size) (off:=0) (m:=[(n,kT)].map encV) ((A.get _ (by simp) (by omega)).trans (get_push_eq rfl)) (fun v hv=>encVs_size _ v hv) (by simp) ?_
  simp [encV,flatC,Value.cells,kT]
 ·simp only [RK,Nat.reduceAdd]
  refine bq_of x3.setBody ?_
  have x4:=x3.set (s':=.mk op n a c ss [])
  rw [hb1] at x4 ys
  refine x4.fin (ex:=[]) (by simp) (by simp) h1s fun y r hy=>?_
  obtain ⟨ss',r1,e1,e2⟩:=h2s y r hy
  have:=ys _ _ e1
  subst ss'
  exact e2
theorem rfor {h h1:AH} {kp i M:Nat} {T r:List Tok} {t:Tok} {bv:Value} {vs:List Var} {b l:Nat} {blk:BlockRd} {each:Bool} {w:ByteArray} (hwe:w=if each then wEach else wFor) (HB:RBlockOK kp T b l blk M) (hM:r.length ≤ M) (hv:VsNZ vs) (hl:vs.length + r.length + 1 ≤ 100000) (hc:t.cls=1) (hw:t.text=w) (x:RT h h1 kp T i (.ok (t::r)) t bv bv vs b l (.mk w empty .zero .zero [] [])) :
  K31_31 (.pointer (some ⟨kp,0,none⟩)) (.pointer (some ⟨h.size,0,none⟩)) (.pointer (some ⟨h.size + 1,0,none⟩)) (.pointer (some ⟨h.size + 2,0,none⟩)) (.string w) (.bool true) h1 (SPostR kp T bv vs b l h (stmtF blk vs (t::r))):=by
 refine X31_31_ok ?_
 unfold X31_31
 have hok:=x.S.okl
 generalize hs1:stN 1=s1
 generalize hs5:stN 5=s5
 simp (disch:=(first | exact dz | fail)) only [SXB,SX,reduceIte,Int.reduceLT,Int.reduceLE,Int.reduceToNat,Int.reduceBEq,Int.reduceBNe,Nat.reduceAdd,Nat.reduceMul,Nat.reduceSub,Nat.reduceLeDiff]
 subst hs1 hs5
 refine x.next (fun ts e=>by cases e;exact (hok.tail (by omega)).ne) fun h2 i2 x2=>?_
 change RT h h2 kp T i2 (.ok r) t bv bv vs b l _ at x2
 simp only [RK,Nat.reduceAdd]
 refine x2.bind hv (by omega) fun h3 i3 n x3 hn=>?_
 simp only [RK,Nat.reduceAdd]
 refine bq_of x3.setName ?_
 have x4:=x3.set (s':=.mk w n .zero .zero [] [])
 have l1:lenS (bindS vs (.ok r)) ≤ r.length:=lenS_bindS x2.S.oks
 refine x4.want 1 wIn (by omega) fun h5 i5 x5=>?_
 have l2:=lenS_wantS (k:=1) (y:=wIn) (by omega) x4.S.oks
 cases each with
 | false =>
  obtain rfl:w=wFor:=hwe
  have hspec:stmtF blk vs (t::r)=(forF blk vs r).map fun p=>((p.1,vs),p.2):=by
   unfold stmtF
   have e1:eqT t.text wEmit=false:=by rw [hw];kernel_rfl
   have e2:eqT t.text wLet=false:=by rw [hw];kernel_rfl
   have e3:eqT t.text wIf=false:=by rw [hw];kernel_rfl
   have e4:eqT t.text wEach=false:=by rw [hw];kernel_rfl
   have e5:eqT t.text wFor=true:=by rw [hw];kernel_rfl
   simp [hc,e1,e2,e3,e4,e5]
  have e1:(wFor.toList == (ByteArray.mk #[102,111,114]).toList)=true:=by kernel_rfl
  generalize hs1:stN 1=s1
  generalize hs5:stN 5=s5
  simp (disch:=(first | exact dz | fail)) only [e1,SXB,SX,reduceIte,Int.reduceLT,Int.reduceLE,Int.reduceToNat,Int.reduceBEq,Int.reduceBNe,Nat.reduceAdd,Nat.reduceMul,Nat.reduceSub,Nat.reduceLeDiff]
  subst hs1 hs5
  refine x5.expr hv (by omega) 108 (by decide) fun h6 i6 a ka x6 ya=>?_
  have l3:=lenS_exprS (w:=108) hv.ok x5.S.oks
  simp only [resK_ret]
  refine bq_of (x:=encE a) rfl ?_
  refine bq_of (x:=.int .u8 (ka:Nat)) rfl ?_
  refine bq_of x6.setA ?_
  have x7:=x6.set (s':=.mk wFor n a .zero [] [])
  obtain ⟨sp1,sp2⟩:=for_spec (blk:=blk) (vs:=vs) (r:=r) (n:=n) (fun y r2 e=>hn _ _ _ rfl e) rfl rfl
  refine rloop HB (by omega) hv (by omega) x7 rfl ?_ fun y r' hy=>?_
  ·rw [hspec]
   refine Eq.trans ?_ sp1
   cases forF blk vs r <;> rfl
  ·rw [hspec] at hy
   cases hem:forF blk vs r with
   | error f=>rw [hem] at hy;cases hy
   | ok z =>
    obtain ⟨s,r''⟩:=z
    rw [hem] at hy
    cases hy
    obtain ⟨p1,q1,m1,r1,k1,k2,k3⟩:=sp2 _ _ hem
    have:=ya _ _ k1
    subst p1
    exact ⟨m1,r1,k2,by rw [k3]⟩
 | true =>
  obtain rfl:w=wEach:=hwe
  have hspec:stmtF blk vs (t::r)=(eachF blk vs r).map fun p=>((p.1,vs),p.2):=by
   unfold stmtF
   have e1:eqT t.text wEmit=false:=by rw [hw];kernel_rfl
   have e2:eqT t.text wLet=false:=by rw [hw];kernel_rfl
   have e3:eqT t.text wIf=false:=by rw [hw];kernel_rfl
   have e4:eqT t.text wEach=true:=by rw [hw];kernel_rfl
   simp [hc,e1,e2,e3,e4]
  have e1:(wEach.toList == (ByteArray.mk #[102,111,114]).toList)=false:=by kernel_rfl
  generalize hs1:stN 1=s1
  generalize hs5:stN 5=s5
  simp (disch:=(first | exact dz | fail)) only [e1,SXB,SX,reduceIte,Int.reduceLT,Int.reduceLE,Int.reduceToNat,Int.reduceBEq,Int.reduceBNe,Nat.reduceAdd,Nat.reduceMul,Nat.reduceSub,Nat.reduceLeDiff]
  subst hs1 hs5
  refine x5.expr hv (by omega) 116 (by decide) fun h6 i6 a ka x6 ya=>?_
  have l3:=lenS_exprS (w:=116) hv.ok x5.S.oks
  simp only [resK_ret]
  refine bq_of (x:=encE a) rfl ?_
  refine bq_of (x:=.int .u8 (ka:Nat)) rfl ?_
  refine bq_of x6.setA ?_
  have x7:=x6.set (s':=.mk wEach n a .zero [] [])
  refine x7.want 1 wBy (by omega) fun h8 i8 x8=>?_
  have l4:=lenS_wantS (k:=1) (y:=wBy) (by omega) x7.S.oks
  simp only [RK,Nat.reduceAdd]
  refine x8.expr hv (by omega) 116 (by decide) fun h9 i9 a2 ka2 x9 ya2=>?_
  have l5:=lenS_exprS (w:=116) hv.ok x8.S.oks
  simp only [resK_ret]
  refine bq_of (x:=encE a2) rfl ?_
  refine bq_of (x:=.int .u8 (ka2:Nat)) rfl ?_
  refine bq_of x9.setB ?_
  have x10:=x9.set (s':=.mk wEach n a a2 [] [])
  obtain ⟨sp1,sp2⟩:=each_spec (blk:=blk) (vs:=vs) (r:=r) (n:=n) (fun y r2 e=>hn _ _ _ rfl e) rfl rfl rfl
  refine rloop HB (by omega) hv (by omega) x10 rfl ?_ fun y r' hy=>?_
  ·rw [hspec]
   refine Eq.trans ?_ sp1
   cases eachF blk vs r <;> rfl
  ·rw [hspec] at hy
   cases hem:eachF blk vs r with
   | error f=>rw [hem] at hy;cases hy
   | ok z =>
    obtain ⟨s,r''⟩:=z
    rw [hem] at hy
    cases hy
    obtain ⟨p1,q1,p2,q2,m1,r1,k1,k2,k3,k4⟩:=sp2 _ _ hem
    have:=ya _ _ k1
    have:=ya2 _ _ k2
    subst p1 p2
    exact ⟨m1,r1,k3,by rw [k4]⟩
end Go.Proofs.YtnaenhkldanjbaaDoor.L
end
