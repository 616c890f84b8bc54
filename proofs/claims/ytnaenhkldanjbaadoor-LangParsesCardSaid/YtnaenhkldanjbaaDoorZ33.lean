import Derived.KernelRfl
import Derived.Test.YtnaenhkldanjbaaDoorProg
import Derived.Test.YtnaenhkldanjbaaDoorZ14
import Derived.Test.YtnaenhkldanjbaaDoorZ32
set_option linter.unusedVariables false
set_option linter.unusedSimpArgs false
section
namespace Go.Proofs.YtnaenhkldanjbaaDoor.L
open Go.Ab Go.Lang Go.Proofs.YtnaenhkldanjbaaDoor.X
set_option maxRecDepth 100000
theorem rbad {h h1:AH} {kp i:Nat} {T ts:List Tok} {t:Tok} {bv:Value} {vs:List Var} {b l:Nat} {s:Lang.Stmt} {rs:SR} (x:RT h h1 kp T i (.ok ts) t bv bv vs b l s) (hrs:rs=.error (161,t.at_)) :
  HC Tryd.prog 19 #[.pointer (some ⟨kp,0,none⟩),.int .i64 161,.int .i64 (t.at_:Nat)] h1 (resK (fun _ h_1=>K31_40 (.pointer (some ⟨h.size,0,none⟩)) (.pointer (some ⟨h.size + 2,0,none⟩)) h_1 (SPostR kp T bv vs b l h rs)) fun v h_1=>SPostR kp T bv vs b l h rs (.pan v) h_1):=by
 refine rfail_ok x.S 161 t.at_ (by omega) fun h2 S2 a2=>?_
 simp (disch:=(first | exact dz | fail)) only [SXB,SX,reduceIte,Int.reduceLT,Int.reduceLE,Int.reduceToNat,Int.reduceBEq,Int.reduceBNe,Nat.reduceAdd,Nat.reduceMul,Nat.reduceSub,Nat.reduceLeDiff]
 have x2:=x.adv S2 a2
 refine x2.fin (ex:=[]) (by simp) (by simp) (by rw [hrs];rfl) (fun y r e=>by rw [hrs] at e;cases e)
theorem rstmt_ok {kp M:Nat} {T:List Tok} {b l:Nat} {blk:BlockRd} (HB:RBlockOK kp T b l blk M) (hblk:BlkOK blk):RStmtOK kp T b l blk (M + 1):=by
 intro i bv vs ts h hn hv hsz S
 refine X31_ok ?_
 unfold X31
 have hlt:=S.lt
 obtain ⟨t,ht⟩:=S.tok
 have hok:=S.okl
 obtain ⟨r,rfl⟩:∃ r,ts=t::r:=by
  have hd:T.drop i=ts:=S.at_
  rw [← hd,List.drop_eq_getElem_cons S.ilt]
  rw [List.getElem?_eq_getElem S.ilt] at ht
  exact ⟨_,by rw [Option.some.inj ht]⟩
 simp (disch:=(first | exact dz | fail)) only [SXB,SX,reduceIte,Int.reduceLT,Int.reduceLE,Int.reduceToNat,Int.reduceBEq,Int.reduceBNe,Nat.reduceAdd,Nat.reduceMul,Nat.reduceSub,Nat.reduceLeDiff]
 refine HC.exact (tok_ok (S.push _ _) ht) ?_
 simp (disch:=(first | exact dz | fail)) only [encT,SXB,SX,reduceIte,Int.reduceLT,Int.reduceLE,Int.reduceToNat,Int.reduceBEq,Int.reduceBNe,Nat.reduceAdd,Nat.reduceMul,Nat.reduceSub,Nat.reduceLeDiff]
 have x:RT h (((((h.push (.cells #[.string ⟨#[]⟩,.string ⟨#[]⟩,.string ⟨#[]⟩,.int .i64 0,.int .i64 0,.string ⟨#[]⟩,.slice none 0 0,.string ⟨#[]⟩,.int .i64 0,.int .i64 0,.string ⟨#[]⟩,.slice none 0 0,.slice none 0 0,.slice none 0 0] 78 (0,0)) none).push (.cells #[.int .i64 0,.int .i64 0,.string ⟨#[]⟩] 72 (0,0)) none).put (h.size + 1) (some (.cells #[.int .i64 t.cls,.int .i64 t.at_,.string t.text] 72 (0,0),none))).push (.cells #[.string ⟨#[]⟩,.string ⟨#[]⟩,.string ⟨#[]⟩,.int .i64 0,.int .i64 0,.string ⟨#[]⟩,.slice none 0 0,.string ⟨#[]⟩,.int .i64 0,.int .i64 0,.string ⟨#[]⟩,.slice none 0 0,.slice none 0 0,.slice none 0 0] 78 (0,0)) none).put (h.size + 1 + 1) (some (.cells #[.string t.text,.string ⟨#[]⟩,.string ⟨#[]⟩,.int .i64 0,.int .i64 0,.string ⟨#[]⟩,.slice none 0 0,.string ⟨#[]⟩,.int .i64 0,.int .i64 0,.string ⟨#[]⟩,.slice none 0 0,.slice none 0 0,.slice none 0 0] 78 (0,0),none))) kp T i (.ok (t::r)) t bv bv vs b l (.mk t.text empty .zero .zero [] []):=by
  refine ⟨?_,?_,get_put_eq rfl,by simp,((((S.push _ _).push _ _).off (q:=h.size + 1) _ (by omega) (fun k hk=>by have:=S.ltb k hk;omega)).push _ _).off (q:=h.size + 1 + 1) _ (by omega) (fun k hk=>by have:=S.ltb k hk;omega),?_,.refl _ _,fun k hk=>.inl (S.ltb k hk),hlt⟩
  ·rw [get_put_ne (by omega),get_push_ne (by simp;omega),get_put_ne (by omega),get_push_ne (by simp)];exact get_push_eq rfl
  ·rw [get_put_ne (by omega),get_push_ne (by simp)];exact get_put_eq rfl
  ·exact Adv.b (by (repeat (first | exact Adv.refl _ _ | assumption | refine Adv.push ?_ _ _ | refine Adv.put ?_ _ _ (by first | exact .inl rfl | (right;first | omega | (simp only [sz_push,sz_put];omega))))))
 generalize (((((h.push (.cells #[.string ⟨#[]⟩,.string ⟨#[]⟩,.string ⟨#[]⟩,.int .i64 0,.int .i64 0,.string ⟨#[]⟩,.slice none 0 0,.string ⟨#[]⟩,.int .i64 0,.int .i64 0,.string ⟨#[]⟩,.slice none 0 0,.slice none 0 0,.slice none 0 0] 78 (0,0)) none).push (.cells #[.int .i64 0,.int .i64 0,.string ⟨#[]⟩] 72 (0,0)) none).put (h.size + 1) (some (.cells #[.int .i64 t.cls,.int .i64 t.at_,.string t.text] 72 (0,0),none))).push (.cells #[.string ⟨#[]⟩,.string ⟨#[]⟩,.string ⟨#[]⟩,.int .i64 0,.int .i64 0,.string ⟨#[]⟩,.slice none 0 0,.string ⟨#[]⟩,.int .i64 0,.int .i64 0,.string ⟨#[]⟩,.slice none 0 0,.slice none 0 0,.slice none 0 0] 78 (0,0)) none).put (h.size + 1 + 1) (some (.cells #[.string t.text,.string ⟨#[]⟩,.string ⟨#[]⟩,.int .i64 0,.int .i64 0,.string ⟨#[]⟩,.slice none 0 0,.string ⟨#[]⟩,.int .i64 0,.int .i64 0,.string ⟨#[]⟩,.slice none 0 0,.slice none 0 0,.slice none 0 0] 78 (0,0),none)))=h1 at x ⊢
 have hlen:r.length + 1 ≤ M + 1:=hn
 have hsz':vs.length + (r.length + 1) ≤ 100000:=hsz
 have e2:h.size + 1 + 1=h.size + 2:=rfl
 rw [e2]
 by_cases hc:t.cls=1
 ·have hcb:((t.cls:Int) == 1)=true:=by simp [hc]
  rw [hcb]
  simp (disch:=(first | exact dz | fail)) only [SXB,SX,reduceIte,Int.reduceLT,Int.reduceLE,Int.reduceToNat,Int.reduceBEq,Int.reduceBNe,Nat.reduceAdd,Nat.reduceMul,Nat.reduceSub,Nat.reduceLeDiff]
  cases h1e:eqT t.text wEmit with
  | true =>
   have hw:=eqT_eq h1e
   rw [hw] at x ⊢
   exact remit (M:=M) hv (by omega) hc hw x
  | false =>
  cases h2e:eqT t.text wLet with
  | true =>
   have hw:=eqT_eq h2e
   rw [hw] at x ⊢
   exact rlet hv (by omega) hc hw x
  | false =>
  cases h3e:eqT t.text wIf with
  | true =>
   have hw:=eqT_eq h3e
   rw [hw] at x ⊢
   exact rif HB hblk (by omega) hv (by omega) hc hw x
  | false =>
  have e1:(t.text.toList == (ByteArray.mk #[101,109,105,116]).toList)=false:=h1e
  have e2:(t.text.toList == (ByteArray.mk #[108,101,116]).toList)=false:=h2e
  have e3:(t.text.toList == (ByteArray.mk #[105,102]).toList)=false:=h3e
  refine X31_6_ok ?_
  unfold X31_6
  cases h4e:eqT t.text wEach with
  | true =>
   have e4:(t.text.toList == (ByteArray.mk #[101,97,99,104]).toList)=true:=h4e
   generalize hs1:stN 1=s1
   generalize hs5:stN 5=s5
   simp (disch:=(first | exact dz | fail)) only [e1,e2,e3,e4,SXB,SX,reduceIte,Int.reduceLT,Int.reduceLE,Int.reduceToNat,Int.reduceBEq,Int.reduceBNe,Nat.reduceAdd,Nat.reduceMul,Nat.reduceSub,Nat.reduceLeDiff]
   subst hs1 hs5
   have hw:=eqT_eq h4e
   rw [hw] at x ⊢
   exact rfor (each:=true) rfl HB (by omega) hv (by omega) hc hw x
  | false =>
  have e4:(t.text.toList == (ByteArray.mk #[101,97,99,104]).toList)=false:=h4e
  cases h5e:eqT t.text wFor with
  | true =>
   have e5:(t.text.toList == (ByteArray.mk #[102,111,114]).toList)=true:=h5e
   generalize hs1:stN 1=s1
   generalize hs5:stN 5=s5
   simp (disch:=(first | exact dz | fail)) only [e1,e2,e3,e4,e5,SXB,SX,reduceIte,Int.reduceLT,Int.reduceLE,Int.reduceToNat,Int.reduceBEq,Int.reduceBNe,Nat.reduceAdd,Nat.reduceMul,Nat.reduceSub,Nat.reduceLeDiff]
   subst hs1 hs5
   have hw:=eqT_eq h5e
   rw [hw] at x ⊢
   exact rfor (each:=false) rfl HB (by omega) hv (by omega) hc hw x
  | false =>
   have e5:(t.text.toList == (ByteArray.mk #[102,111,114]).toList)=false:=h5e
   have hx:=x.tok
   generalize hs1:stN 1=s1
   generalize hs5:stN 5=s5
   simp (disch:=(first | exact dz | fail)) only [e1,e2,e3,e4,e5,SXB,SX,reduceIte,Int.reduceLT,Int.reduceLE,Int.reduceToNat,Int.reduceBEq,Int.reduceBNe,Nat.reduceAdd,Nat.reduceMul,Nat.reduceSub,Nat.reduceLeDiff]
   subst hs1 hs5
   refine X31_31_ok ?_
   unfold X31_31
   generalize hs1:stN 1=s1
   generalize hs5:stN 5=s5
   simp (disch:=(first | exact dz | fail)) only [hx,SXB,SX,reduceIte,Int.reduceLT,Int.reduceLE,Int.reduceToNat,Int.reduceBEq,Int.reduceBNe,Nat.reduceAdd,Nat.reduceMul,Nat.reduceSub,Nat.reduceLeDiff]
   subst hs1 hs5
   refine rbad x ?_
   unfold stmtF
   simp [hc,h1e,h2e,h3e,h4e,h5e]
 ·have hcb:((t.cls:Int) == 1)=false:=by simp;omega
  rw [hcb]
  simp (disch:=(first | exact dz | fail)) only [SXB,SX,reduceIte,Int.reduceLT,Int.reduceLE,Int.reduceToNat,Int.reduceBEq,Int.reduceBNe,Nat.reduceAdd,Nat.reduceMul,Nat.reduceSub,Nat.reduceLeDiff]
  have e1:((ByteArray.mk #[]).toList == (ByteArray.mk #[101,109,105,116]).toList)=false:=by kernel_rfl
  have e2:((ByteArray.mk #[]).toList == (ByteArray.mk #[108,101,116]).toList)=false:=by kernel_rfl
  have e3:((ByteArray.mk #[]).toList == (ByteArray.mk #[105,102]).toList)=false:=by kernel_rfl
  have e4:((ByteArray.mk #[]).toList == (ByteArray.mk #[101,97,99,104]).toList)=false:=by kernel_rfl
  have e5:((ByteArray.mk #[]).toList == (ByteArray.mk #[102,111,114]).toList)=false:=by kernel_rfl
  have hx:=x.tok
  refine X31_6_ok ?_
  unfold X31_6
  generalize hs1:stN 1=s1
  generalize hs5:stN 5=s5
  simp (disch:=(first | exact dz | fail)) only [e1,e2,e3,e4,e5,SXB,SX,reduceIte,Int.reduceLT,Int.reduceLE,Int.reduceToNat,Int.reduceBEq,Int.reduceBNe,Nat.reduceAdd,Nat.reduceMul,Nat.reduceSub,Nat.reduceLeDiff]
  subst hs1 hs5
  refine X31_31_ok ?_
  unfold X31_31
  generalize hs1:stN 1=s1
  generalize hs5:stN 5=s5
  simp (disch:=(first | exact dz | fail)) only [hx,SXB,SX,reduceIte,Int.reduceLT,Int.reduceLE,Int.reduceToNat,Int.reduceBEq,Int.reduceBNe,Nat.reduceAdd,Nat.reduceMul,Nat.reduceSub,Nat.reduceLeDiff]
  subst hs1 hs5
  refine rbad x ?_
  unfold stmtF
  simp [hc]
theorem rblk_of {kp:Nat} {T:List Tok}:∀ (n:Nat) {b l:Nat},b ≤ 8→l ≤ 2→RBlockOK kp T b l (blockG (stmtsF n) b l) n:=by
 intro n
 induction n using Nat.strongRecOn with
 | ind n ih =>
  intro b l hb hl
  refine rblock_ok hb hl fun loop h8 hl2 m hm=>?_
  have hlo:l + loopN loop ≤ 2:=by
   cases loop with
   | false=>exact hl
   | true=>have:=hl2 rfl;show l + 1 ≤ 2;omega
  exact rstmt_ok (ih m hm (by omega) hlo) (blockG_ok _ _ _)
end Go.Proofs.YtnaenhkldanjbaaDoor.L
end
section
namespace Go.Proofs.YtnaenhkldanjbaaDoor.X
open Go.Ab
set_option maxRecDepth 100000
noncomputable def code12:Code:=match Tryd.f12.body with | some c=>c | none=>.skip
noncomputable def res12:List ResultVar:=Tryd.f12.results.toList
def L12:Nat→Option (List Nat):=fun r=>if r=3 then some [0,4,5] else if r=10 then some [0,4,5,6,7,37] else if r=14 then some [0,4,5,6,7,67] else if r=24 then some [0,4,5,7,8,9] else if r=36 then some [0,4,5,7,8,9,169,171] else if r=44 then some [0,4,5,7,8,9] else if r=48 then some [0,4,7] else none
noncomputable def H12_3 (t0 t4 t5:Value) (h:AH) (Q:RQ):Prop:=HL Tryd.prog (cAt code12 [.r,.r,.r,.l,.i,.i]) (mkA 220 [(0,t0),(4,t4),(5,t5)]) h (ctxAt Tryd.prog L12 code12 [.r,.r,.r,.l,.i] (retK Tryd.prog res12 Q))
noncomputable def H12_10 (t0 t4 t5 t6 t7 t37:Value) (h:AH) (Q:RQ):Prop:=HL Tryd.prog (cAt code12 (.r::.r::.r::Dir.l::Dir.i::Dir.i::.r::Dir.i::.r::.r::.r::Dir.l::Dir.i::.r::Dir.l::Dir.l::Dir.i::Dir.i::[])) (mkA 220 [(0,t0),(4,t4),(5,t5),(6,t6),(7,t7),(37,t37)]) h (ctxAt Tryd.prog L12 code12 (.r::.r::.r::Dir.l::Dir.i::Dir.i::.r::Dir.i::.r::.r::.r::Dir.l::Dir.i::.r::Dir.l::Dir.l::Dir.i::[]) (retK Tryd.prog res12 Q))
noncomputable def H12_14 (t0 t4 t5 t6 t7 t67:Value) (h:AH) (Q:RQ):Prop:=HL Tryd.prog (cAt code12 (.r::.r::.r::Dir.l::Dir.i::Dir.i::.r::Dir.i::.r::.r::.r::Dir.l::Dir.i::.r::.r::.r::Dir.l::Dir.l::Dir.i::Dir.i::[])) (mkA 220 [(0,t0),(4,t4),(5,t5),(6,t6),(7,t7),(67,t67)]) h (ctxAt Tryd.prog L12 code12 (.r::.r::.r::Dir.l::Dir.i::Dir.i::.r::Dir.i::.r::.r::.r::Dir.l::Dir.i::.r::.r::.r::Dir.l::Dir.l::Dir.i::[]) (retK Tryd.prog res12 Q))
noncomputable def J12_48 (t0 t4 t7:Value) (h:AH) (Q:RQ):Prop:=wpC Tryd.prog L12 (cAt code12 [.r,.r,.r,.l,.i,.i,.r,.i,.r,.r,.r,.r]) (mkA 220 [(0,t0),(4,t4),(7,t7)]) h (ctxAt Tryd.prog L12 code12 [.r,.r,.r,.l,.i,.i,.r,.i,.r,.r,.r,.r] (retK Tryd.prog res12 Q))
noncomputable def K12_48 (t0 t4 t7:Value) (h:AH) (Q:RQ):Prop:=(ctxAt Tryd.prog L12 code12 [.r,.r,.r,.l,.i,.i,.r,.i,.r,.r,.r,.l] (retK Tryd.prog res12 Q)) .normal (mkA 220 [(0,t0),(4,t4),(7,t7)]) h
theorem K12_48_eq (t0 t4 t7:Value) (h:AH) (Q:RQ):J12_48 t0 t4 t7 h Q=K12_48 t0 t4 t7 h Q:=join_eq (p:=[.r,.r,.r,.l,.i,.i,.r,.i,.r,.r,.r]) (code:=code12) (by kernel_rfl) (by kernel_rfl)
noncomputable def H12_24 (t0 t4 t5 t7 t8 t9:Value) (h:AH) (Q:RQ):Prop:=HL Tryd.prog (cAt code12 (.r::.r::.r::Dir.l::Dir.i::Dir.i::.r::Dir.i::.r::.r::.r::Dir.l::Dir.i::.r::.r::.r::.r::.r::.r::.r::Dir.l::.r::.r::Dir.l::Dir.i::Dir.i::[])) (mkA 220 [(0,t0),(4,t4),(5,t5),(7,t7),(8,t8),(9,t9)]) h (ctxAt Tryd.prog L12 code12 (.r::.r::.r::Dir.l::Dir.i::Dir.i::.r::Dir.i::.r::.r::.r::Dir.l::Dir.i::.r::.r::.r::.r::.r::.r::.r::Dir.l::.r::.r::Dir.l::Dir.i::[]) (retK Tryd.prog res12 Q))
noncomputable def J12_44 (t0 t4 t5 t7 t8 t9:Value) (h:AH) (Q:RQ):Prop:=wpC Tryd.prog L12 (cAt code12 (.r::.r::.r::Dir.l::Dir.i::Dir.i::.r::Dir.i::.r::.r::.r::Dir.l::Dir.i::.r::.r::.r::.r::.r::.r::.r::Dir.l::.r::.r::Dir.l::Dir.i::Dir.i::.r::Dir.i::.r::.r::[])) (mkA 220 [(0,t0),(4,t4),(5,t5),(7,t7),(8,t8),(9,t9)]) h (ctxAt Tryd.prog L12 code12 (.r::.r::.r::Dir.l::Dir.i::Dir.i::.r::Dir.i::.r::.r::.r::Dir.l::Dir.i::.r::.r::.r::.r::.r::.r::.r::Dir.l::.r::.r::Dir.l::Dir.i::Dir.i::.r::Dir.i::.r::.r::[]) (retK Tryd.prog res12 Q))
noncomputable def K12_44 (t0 t4 t5 t7 t8 t9:Value) (h:AH) (Q:RQ):Prop:=(ctxAt Tryd.prog L12 code12 (.r::.r::.r::Dir.l::Dir.i::Dir.i::.r::Dir.i::.r::.r::.r::Dir.l::Dir.i::.r::.r::.r::.r::.r::.r::.r::Dir.l::.r::.r::Dir.l::Dir.i::Dir.i::.r::Dir.i::.r::Dir.l::[]) (retK Tryd.prog res12 Q)) .normal (mkA 220 [(0,t0),(4,t4),(5,t5),(7,t7),(8,t8),(9,t9)]) h
theorem K12_44_eq (t0 t4 t5 t7 t8 t9:Value) (h:AH) (Q:RQ):J12_44 t0 t4 t5 t7 t8 t9 h Q=K12_44 t0 t4 t5 t7 t8 t9 h Q:=join_eq (p:=(.r::.r::.r::Dir.l::Dir.i::Dir.i::.r::Dir.i::.r::.r::.r::Dir.l::Dir.i::.r::.r::.r::.r::.r::.r::.r::Dir.l::.r::.r::Dir.l::Dir.i::Dir.i::.r::Dir.i::.r::[])) (code:=code12) (by kernel_rfl) (by kernel_rfl)
noncomputable def J12_36 (t0 t4 t5 t7 t8 t9 t169 t171:Value) (h:AH) (Q:RQ):Prop:=wpC Tryd.prog L12 (cAt code12 (.r::.r::.r::Dir.l::Dir.i::Dir.i::.r::Dir.i::.r::.r::.r::Dir.l::Dir.i::.r::.r::.r::.r::.r::.r::.r::Dir.l::.r::.r::Dir.l::Dir.i::Dir.i::.r::Dir.i::.r::Dir.l::.r::.r::.r::Dir.l::.r::.r::.r::Dir.i::.r::[])) (mkA 220 [(0,t0),(4,t4),(5,t5),(7,t7),(8,t8),(9,t9),(169,t169),(171,t171)]) h (ctxAt Tryd.prog L12 code12 (.r::.r::.r::Dir.l::Dir.i::Dir.i::.r::Dir.i::.r::.r::.r::Dir.l::Dir.i::.r::.r::.r::.r::.r::.r::.r::Dir.l::.r::.r::Dir.l::Dir.i::Dir.i::.r::Dir.i::.r::Dir.l::.r::.r::.r::Dir.l::.r::.r::.r::Dir.i::.r::[]) (retK Tryd.prog res12 Q))
noncomputable def K12_36 (t0 t4 t5 t7 t8 t9 t169 t171:Value) (h:AH) (Q:RQ):Prop:=(ctxAt Tryd.prog L12 code12 (.r::.r::.r::Dir.l::Dir.i::Dir.i::.r::Dir.i::.r::.r::.r::Dir.l::Dir.i::.r::.r::.r::.r::.r::.r::.r::Dir.l::.r::.r::Dir.l::Dir.i::Dir.i::.r::Dir.i::.r::Dir.l::.r::.r::.r::Dir.l::.r::.r::.r::Dir.i::Dir.l::[]) (retK Tryd.prog res12 Q)) .normal (mkA 220 [(0,t0),(4,t4),(5,t5),(7,t7),(8,t8),(9,t9),(169,t169),(171,t171)]) h
theorem K12_36_eq (t0 t4 t5 t7 t8 t9 t169 t171:Value) (h:AH) (Q:RQ):J12_36 t0 t4 t5 t7 t8 t9 t169 t171 h Q=K12_36 t0 t4 t5 t7 t8 t9 t169 t171 h Q:=join_eq (p:=(.r::.r::.r::Dir.l::Dir.i::Dir.i::.r::Dir.i::.r::.r::.r::Dir.l::Dir.i::.r::.r::.r::.r::.r::.r::.r::Dir.l::.r::.r::Dir.l::Dir.i::Dir.i::.r::Dir.i::.r::Dir.l::.r::.r::.r::Dir.l::.r::.r::.r::Dir.i::[])) (code:=code12) (by kernel_rfl) (by kernel_rfl)
noncomputable def X12_36 (t0 t4 t5 t7 t8 t9 t169 t171:Value) (h:AH) (Q:RQ):Prop :=
 condP (some t171)
 (let t174:Value:=t8
 let t175:Value:=t0
 let t176:Value:=t7
 bq (ixS t175 t176) fun t177 =>
 bq (bs 5 #[(Value.int .u8 0)] 1 h [(0,1,t177)]) fun r=>(fun t178 h =>
 bq (apT 5 1 1 (some (Value.int .u8 0)) h t174 t178) fun r=>(fun t179 h =>
 let t8:Value:=t179
 K12_44 t0 t4 t5 t7 t8 t9 h Q) r.1 r.2) r.1 r.2)
 (bq (binV Tryd.prog .eql 5 (.tmp 169) (.const (Value.int .u8 110)) t169 (Value.int .u8 110) h) fun t181 =>
 let t180:Value:=t181
 condP (some t180)
 (let t182:Value:=t8
 bq (bs 5 #[(Value.int .u8 0)] 1 h [(0,1,(Value.int .u8 10))]) fun r=>(fun t183 h =>
 bq (apT 5 1 1 (some (Value.int .u8 0)) h t182 t183) fun r=>(fun t184 h =>
 let t8:Value:=t184
 K12_44 t0 t4 t5 t7 t8 t9 h Q) r.1 r.2) r.1 r.2)
 (bq (binV Tryd.prog .eql 5 (.tmp 169) (.const (Value.int .u8 116)) t169 (Value.int .u8 116) h) fun t186 =>
 let t185:Value:=t186
 condP (some t185)
 (let t187:Value:=t8
 bq (bs 5 #[(Value.int .u8 0)] 1 h [(0,1,(Value.int .u8 9))]) fun r=>(fun t188 h =>
 bq (apT 5 1 1 (some (Value.int .u8 0)) h t187 t188) fun r=>(fun t189 h =>
 let t8:Value:=t189
 K12_44 t0 t4 t5 t7 t8 t9 h Q) r.1 r.2) r.1 r.2)
 (let t170:Value:=t5
 let t2:Value:=(Value.slice none 0 0)
 let t3:Value:=t170
 Q (.ret (.tuple [t2,t3].toArray)) h)))
theorem X12_36_eq (t0 t4 t5 t7 t8 t9 t169 t171:Value) (h:AH) (Q:RQ):X12_36 t0 t4 t5 t7 t8 t9 t169 t171 h Q=wpC Tryd.prog L12 (cAt code12 (.r::.r::.r::Dir.l::Dir.i::Dir.i::.r::Dir.i::.r::.r::.r::Dir.l::Dir.i::.r::.r::.r::.r::.r::.r::.r::Dir.l::.r::.r::Dir.l::Dir.i::Dir.i::.r::Dir.i::.r::Dir.l::.r::.r::.r::Dir.l::.r::.r::.r::Dir.i::.r::[])) (mkA 220 [(0,t0),(4,t4),(5,t5),(7,t7),(8,t8),(9,t9),(169,t169),(171,t171)]) h (ctxAt Tryd.prog L12 code12 (.r::.r::.r::Dir.l::Dir.i::Dir.i::.r::Dir.i::.r::.r::.r::Dir.l::Dir.i::.r::.r::.r::.r::.r::.r::.r::Dir.l::.r::.r::Dir.l::Dir.i::Dir.i::.r::Dir.i::.r::Dir.l::.r::.r::.r::Dir.l::.r::.r::.r::Dir.i::.r::[]) (retK Tryd.prog res12 Q)):=by kernel_rfl
theorem X12_36_ok {t0 t4 t5 t7 t8 t9 t169 t171:Value} {h:AH} {Q:RQ} (H:X12_36 t0 t4 t5 t7 t8 t9 t169 t171 h Q):K12_36 t0 t4 t5 t7 t8 t9 t169 t171 h Q:=(K12_36_eq t0 t4 t5 t7 t8 t9 t169 t171 h Q).mp (((X12_36_eq t0 t4 t5 t7 t8 t9 t169 t171 h Q).mp H))
noncomputable def X12_44 (t0 t4 t5 t7 t8 t9:Value) (h:AH) (Q:RQ):Prop :=
 let t201:Value:=t7
 bq (binV Tryd.prog .add 3 (.tmp 201) (.const (Value.int .i64 1)) t201 (Value.int .i64 1) h) fun t202 =>
 let t7:Value:=t202
 H12_24 t0 t4 t5 t7 t8 t9 h Q
theorem X12_44_eq (t0 t4 t5 t7 t8 t9:Value) (h:AH) (Q:RQ):X12_44 t0 t4 t5 t7 t8 t9 h Q=wpC Tryd.prog L12 (cAt code12 (.r::.r::.r::Dir.l::Dir.i::Dir.i::.r::Dir.i::.r::.r::.r::Dir.l::Dir.i::.r::.r::.r::.r::.r::.r::.r::Dir.l::.r::.r::Dir.l::Dir.i::Dir.i::.r::Dir.i::.r::.r::[])) (mkA 220 [(0,t0),(4,t4),(5,t5),(7,t7),(8,t8),(9,t9)]) h (ctxAt Tryd.prog L12 code12 (.r::.r::.r::Dir.l::Dir.i::Dir.i::.r::Dir.i::.r::.r::.r::Dir.l::Dir.i::.r::.r::.r::.r::.r::.r::.r::Dir.l::.r::.r::Dir.l::Dir.i::Dir.i::.r::Dir.i::.r::.r::[]) (retK Tryd.prog res12 Q)):=by kernel_rfl
theorem X12_44_ok {t0 t4 t5 t7 t8 t9:Value} {h:AH} {Q:RQ} (H:X12_44 t0 t4 t5 t7 t8 t9 h Q):K12_44 t0 t4 t5 t7 t8 t9 h Q:=(K12_44_eq t0 t4 t5 t7 t8 t9 h Q).mp (((X12_44_eq t0 t4 t5 t7 t8 t9 h Q).mp H))
noncomputable def X12_24 (t0 t4 t5 t7 t8 t9:Value) (h:AH) (Q:RQ):Prop :=
 let t145:Value:=t7
 let t146:Value:=t0
 bq (lenS t146) fun t147 =>
 bq (binV Tryd.prog .lss 3 (.tmp 145) (.tmp 147) t145 t147 h) fun t148 =>
 let t149:Value:=t148
 guardQ t149 true h (fun k=>k t9 h) fun t150 h =>
 guardQ t149 true h (fun k=>bq (unV Tryd.prog .not t150) fun v=>k v h) fun t151 h =>
 bq (pickV t149 t151 (Value.bool false)) fun t152 =>
 condP (some t152)
 (let t153:Value:=t0
 let t154:Value:=t7
 bq (ixS t153 t154) fun t155 =>
 let t10:Value:=t155
 let t156:Value:=t10
 bq (binV Tryd.prog .eql 5 (.tmp 156) (.const (Value.int .u8 34)) t156 (Value.int .u8 34) h) fun t157 =>
 condP (some t157)
 (let t9:Value:=(Value.bool true)
 K12_44 t0 t4 t5 t7 t8 t9 h Q)
 (let t158:Value:=t10
 bq (binV Tryd.prog .eql 5 (.tmp 158) (.const (Value.int .u8 92)) t158 (Value.int .u8 92) h) fun t159 =>
 condP (some t159)
 (let t160:Value:=t7
 bq (binV Tryd.prog .add 3 (.tmp 160) (.const (Value.int .i64 1)) t160 (Value.int .i64 1) h) fun t161 =>
 let t7:Value:=t161
 let t162:Value:=t7
 let t163:Value:=t0
 bq (lenS t163) fun t164 =>
 bq (binV Tryd.prog .geq 3 (.tmp 162) (.tmp 164) t162 t164 h) fun t165 =>
 condP (some t165)
 (let t166:Value:=t5
 let t2:Value:=(Value.slice none 0 0)
 let t3:Value:=t166
 Q (.ret (.tuple [t2,t3].toArray)) h)
 (let t167:Value:=t0
 let t168:Value:=t7
 bq (ixS t167 t168) fun t169 =>
 bq (binV Tryd.prog .eql 5 (.tmp 169) (.const (Value.int .u8 34)) t169 (Value.int .u8 34) h) fun t172 =>
 let t171:Value:=t172
 condP (some t171)
 (K12_36 t0 t4 t5 t7 t8 t9 t169 t171 h Q)
 (bq (binV Tryd.prog .eql 5 (.tmp 169) (.const (Value.int .u8 92)) t169 (Value.int .u8 92) h) fun t173 =>
 let t171:Value:=t173
 K12_36 t0 t4 t5 t7 t8 t9 t169 t171 h Q)))
 (let t190:Value:=t10
 bq (binV Tryd.prog .lss 5 (.tmp 190) (.const (Value.int .u8 32)) t190 (Value.int .u8 32) h) fun t191 =>
 let t192:Value:=t191
 guardQ t192 false h (fun k=>k t10 h) fun t193 h =>
 guardQ t192 false h (fun k=>bq (binV Tryd.prog .gtr 5 (.tmp 193) (.const (Value.int .u8 126)) t193 (Value.int .u8 126) h) fun v=>k v h) fun t194 h =>
 bq (pickV t192 (Value.bool true) t194) fun t195 =>
 condP (some t195)
 (let t196:Value:=t5
 let t2:Value:=(Value.slice none 0 0)
 let t3:Value:=t196
 Q (.ret (.tuple [t2,t3].toArray)) h)
 (let t197:Value:=t8
 let t198:Value:=t10
 bq (bs 5 #[(Value.int .u8 0)] 1 h [(0,1,t198)]) fun r=>(fun t199 h =>
 bq (apT 5 1 1 (some (Value.int .u8 0)) h t197 t199) fun r=>(fun t200 h =>
 let t8:Value:=t200
 K12_44 t0 t4 t5 t7 t8 t9 h Q) r.1 r.2) r.1 r.2))))
 (let t203:Value:=t9
 bq (unV Tryd.prog .not t203) fun t204 =>
 condP (some t204)
 (let t205:Value:=t5
 let t2:Value:=(Value.slice none 0 0)
 let t3:Value:=t205
 Q (.ret (.tuple [t2,t3].toArray)) h)
 (let t206:Value:=t4
 let t207:Value:=t5
 let t208:Value:=t8
 bq (convV Tryd.prog 90 9 t208 h) fun r=>(fun t209 h =>
 bq (bd #[(Value.int .i64 0),(Value.int .i64 0),(Value.string (ByteArray.mk #[]))] [(0,1,(Value.int .i64 3)),(1,1,t207),(2,1,t209)]) fun t210 =>
 bq (bs 72 #[(Value.int .i64 0),(Value.int .i64 0),(Value.string (ByteArray.mk #[]))] 1 h [(0,3,t210)]) fun r=>(fun t211 h =>
 bq (apT 72 3 32 (some (Value.agg #[(Value.int .i64 0),(Value.int .i64 0),(Value.string (ByteArray.mk #[]))])) h t206 t211) fun r=>(fun t212 h =>
 let t4:Value:=t212
 K12_48 t0 t4 t7 h Q) r.1 r.2) r.1 r.2) r.1 r.2))
theorem X12_24_eq (t0 t4 t5 t7 t8 t9:Value) (h:AH) (Q:RQ):X12_24 t0 t4 t5 t7 t8 t9 h Q=wpC Tryd.prog L12 (cAt code12 (.r::.r::.r::Dir.l::Dir.i::Dir.i::.r::Dir.i::.r::.r::.r::Dir.l::Dir.i::.r::.r::.r::.r::.r::.r::.r::Dir.l::.r::.r::Dir.l::Dir.i::Dir.i::[])) (mkA 220 [(0,t0),(4,t4),(5,t5),(7,t7),(8,t8),(9,t9)]) h (ctxAt Tryd.prog L12 code12 (.r::.r::.r::Dir.l::Dir.i::Dir.i::.r::Dir.i::.r::.r::.r::Dir.l::Dir.i::.r::.r::.r::.r::.r::.r::.r::Dir.l::.r::.r::Dir.l::Dir.i::Dir.i::[]) (retK Tryd.prog res12 Q)):=by kernel_rfl
theorem X12_24_ok {t0 t4 t5 t7 t8 t9:Value} {h:AH} {Q:RQ} (H:X12_24 t0 t4 t5 t7 t8 t9 h Q):H12_24 t0 t4 t5 t7 t8 t9 h Q:=HL.step (L:=L12) ((X12_24_eq t0 t4 t5 t7 t8 t9 h Q).mp H)
noncomputable def X12_48 (t0 t4 t7:Value) (h:AH) (Q:RQ):Prop :=
 let t213:Value:=t7
 let t5:Value:=t213
 H12_3 t0 t4 t5 h Q
theorem X12_48_eq (t0 t4 t7:Value) (h:AH) (Q:RQ):X12_48 t0 t4 t7 h Q=wpC Tryd.prog L12 (cAt code12 [.r,.r,.r,.l,.i,.i,.r,.i,.r,.r,.r,.r]) (mkA 220 [(0,t0),(4,t4),(7,t7)]) h (ctxAt Tryd.prog L12 code12 [.r,.r,.r,.l,.i,.i,.r,.i,.r,.r,.r,.r] (retK Tryd.prog res12 Q)):=by kernel_rfl
theorem X12_48_ok {t0 t4 t7:Value} {h:AH} {Q:RQ} (H:X12_48 t0 t4 t7 h Q):K12_48 t0 t4 t7 h Q:=(K12_48_eq t0 t4 t7 h Q).mp (((X12_48_eq t0 t4 t7 h Q).mp H))
noncomputable def X12_14 (t0 t4 t5 t6 t7 t67:Value) (h:AH) (Q:RQ):Prop :=
 let t70:Value:=t7
 let t71:Value:=t0
 bq (lenS t71) fun t72 =>
 bq (binV Tryd.prog .lss 3 (.tmp 70) (.tmp 72) t70 t72 h) fun t73 =>
 let t74:Value:=t73
 guardQ t74 true h (fun k=>k t0 h) fun t75 h =>
 guardQ t74 true h (fun k=>k t7 h) fun t76 h =>
 guardQ t74 true h (fun k=>bq (ixS t75 t76) fun v=>k v h) fun t77 h =>
 guardQ t74 true h (fun k=>HC Tryd.prog 30 (([]:List Value)++[t77]++([]:List Value)).toArray h (resK k (fun v h=>Q (.pan v) h))) fun t78 h =>
 bq (pickV t74 t78 (Value.bool false)) fun t79 =>
 condP (some t79)
 (let t80:Value:=t7
 bq (binV Tryd.prog .add 3 (.tmp 80) (.const (Value.int .i64 1)) t80 (Value.int .i64 1) h) fun t81 =>
 let t7:Value:=t81
 H12_14 t0 t4 t5 t6 t7 t67 h Q)
 (let t82:Value:=t7
 let t83:Value:=t5
 bq (binV Tryd.prog .sub 3 (.tmp 82) (.tmp 83) t82 t83 h) fun t84 =>
 bq (binV Tryd.prog .gtr 3 (.tmp 84) (.const (Value.int .i64 9)) t84 (Value.int .i64 9) h) fun t85 =>
 let t86:Value:=t85
 guardQ t86 false h (fun k=>k t6 h) fun t87 h =>
 guardQ t86 false h (fun k=>bq (binV Tryd.prog .eql 5 (.tmp 87) (.const (Value.int .u8 48)) t87 (Value.int .u8 48) h) fun v=>k v h) fun t88 h =>
 guardQ t86 false h (fun k=>k t88 h) fun t89 h =>
 guardQ t89 true h (fun k=>k t7 h) fun t90 h =>
 guardQ t89 true h (fun k=>k t5 h) fun t91 h =>
 guardQ t89 true h (fun k=>bq (binV Tryd.prog .sub 3 (.tmp 90) (.tmp 91) t90 t91 h) fun v=>k v h) fun t92 h =>
 guardQ t89 true h (fun k=>bq (binV Tryd.prog .gtr 3 (.tmp 92) (.const (Value.int .i64 1)) t92 (Value.int .i64 1) h) fun v=>k v h) fun t93 h =>
 guardQ t86 false h (fun k=>bq (pickV t89 t93 (Value.bool false)) fun v=>k v h) fun t94 h =>
 bq (pickV t86 (Value.bool true) t94) fun t95 =>
 condP (some t95)
 (let t96:Value:=t5
 let t2:Value:=(Value.slice none 0 0)
 let t3:Value:=t96
 Q (.ret (.tuple [t2,t3].toArray)) h)
 (let t97:Value:=t4
 let t98:Value:=t5
 let t99:Value:=t0
 let t100:Value:=t5
 let t101:Value:=t7
 bq (sliceV Tryd.prog h 9 t99 (some t100) (some t101)) fun t102 =>
 bq (bd #[(Value.int .i64 0),(Value.int .i64 0),(Value.string (ByteArray.mk #[]))] [(0,1,(Value.int .i64 2)),(1,1,t98),(2,1,t102)]) fun t103 =>
 bq (bs 72 #[(Value.int .i64 0),(Value.int .i64 0),(Value.string (ByteArray.mk #[]))] 1 h [(0,3,t103)]) fun r=>(fun t104 h =>
 bq (apT 72 3 32 (some (Value.agg #[(Value.int .i64 0),(Value.int .i64 0),(Value.string (ByteArray.mk #[]))])) h t97 t104) fun r=>(fun t105 h =>
 let t4:Value:=t105
 K12_48 t0 t4 t7 h Q) r.1 r.2) r.1 r.2))
theorem X12_14_eq (t0 t4 t5 t6 t7 t67:Value) (h:AH) (Q:RQ):X12_14 t0 t4 t5 t6 t7 t67 h Q=wpC Tryd.prog L12 (cAt code12 (.r::.r::.r::Dir.l::Dir.i::Dir.i::.r::Dir.i::.r::.r::.r::Dir.l::Dir.i::.r::.r::.r::Dir.l::Dir.l::Dir.i::Dir.i::[])) (mkA 220 [(0,t0),(4,t4),(5,t5),(6,t6),(7,t7),(67,t67)]) h (ctxAt Tryd.prog L12 code12 (.r::.r::.r::Dir.l::Dir.i::Dir.i::.r::Dir.i::.r::.r::.r::Dir.l::Dir.i::.r::.r::.r::Dir.l::Dir.l::Dir.i::Dir.i::[]) (retK Tryd.prog res12 Q)):=by kernel_rfl
theorem X12_14_ok {t0 t4 t5 t6 t7 t67:Value} {h:AH} {Q:RQ} (H:X12_14 t0 t4 t5 t6 t7 t67 h Q):H12_14 t0 t4 t5 t6 t7 t67 h Q:=HL.step (L:=L12) ((X12_14_eq t0 t4 t5 t6 t7 t67 h Q).mp H)
noncomputable def X12_10 (t0 t4 t5 t6 t7 t37:Value) (h:AH) (Q:RQ):Prop :=
 let t40:Value:=t7
 let t41:Value:=t0
 bq (lenS t41) fun t42 =>
 bq (binV Tryd.prog .lss 3 (.tmp 40) (.tmp 42) t40 t42 h) fun t43 =>
 let t44:Value:=t43
 guardQ t44 true h (fun k=>k t0 h) fun t45 h =>
 guardQ t44 true h (fun k=>k t7 h) fun t46 h =>
 guardQ t44 true h (fun k=>bq (ixS t45 t46) fun v=>k v h) fun t47 h =>
 guardQ t44 true h (fun k=>HC Tryd.prog 29 (([]:List Value)++[t47]++([]:List Value)).toArray h (resK k (fun v h=>Q (.pan v) h))) fun t48 h =>
 guardQ t44 true h (fun k=>k t48 h) fun t49 h =>
 guardQ t49 false h (fun k=>k t0 h) fun t50 h =>
 guardQ t49 false h (fun k=>k t7 h) fun t51 h =>
 guardQ t49 false h (fun k=>bq (ixS t50 t51) fun v=>k v h) fun t52 h =>
 guardQ t49 false h (fun k=>HC Tryd.prog 30 (([]:List Value)++[t52]++([]:List Value)).toArray h (resK k (fun v h=>Q (.pan v) h))) fun t53 h =>
 guardQ t44 true h (fun k=>bq (pickV t49 (Value.bool true) t53) fun v=>k v h) fun t54 h =>
 bq (pickV t44 t54 (Value.bool false)) fun t55 =>
 condP (some t55)
 (let t56:Value:=t7
 bq (binV Tryd.prog .add 3 (.tmp 56) (.const (Value.int .i64 1)) t56 (Value.int .i64 1) h) fun t57 =>
 let t7:Value:=t57
 H12_10 t0 t4 t5 t6 t7 t37 h Q)
 (let t58:Value:=t4
 let t59:Value:=t5
 let t60:Value:=t0
 let t61:Value:=t5
 let t62:Value:=t7
 bq (sliceV Tryd.prog h 9 t60 (some t61) (some t62)) fun t63 =>
 bq (bd #[(Value.int .i64 0),(Value.int .i64 0),(Value.string (ByteArray.mk #[]))] [(0,1,(Value.int .i64 1)),(1,1,t59),(2,1,t63)]) fun t64 =>
 bq (bs 72 #[(Value.int .i64 0),(Value.int .i64 0),(Value.string (ByteArray.mk #[]))] 1 h [(0,3,t64)]) fun r=>(fun t65 h =>
 bq (apT 72 3 32 (some (Value.agg #[(Value.int .i64 0),(Value.int .i64 0),(Value.string (ByteArray.mk #[]))])) h t58 t65) fun r=>(fun t66 h =>
 let t4:Value:=t66
 K12_48 t0 t4 t7 h Q) r.1 r.2) r.1 r.2)
theorem X12_10_eq (t0 t4 t5 t6 t7 t37:Value) (h:AH) (Q:RQ):X12_10 t0 t4 t5 t6 t7 t37 h Q=wpC Tryd.prog L12 (cAt code12 (.r::.r::.r::Dir.l::Dir.i::Dir.i::.r::Dir.i::.r::.r::.r::Dir.l::Dir.i::.r::Dir.l::Dir.l::Dir.i::Dir.i::[])) (mkA 220 [(0,t0),(4,t4),(5,t5),(6,t6),(7,t7),(37,t37)]) h (ctxAt Tryd.prog L12 code12 (.r::.r::.r::Dir.l::Dir.i::Dir.i::.r::Dir.i::.r::.r::.r::Dir.l::Dir.i::.r::Dir.l::Dir.l::Dir.i::Dir.i::[]) (retK Tryd.prog res12 Q)):=by kernel_rfl
theorem X12_10_ok {t0 t4 t5 t6 t7 t37:Value} {h:AH} {Q:RQ} (H:X12_10 t0 t4 t5 t6 t7 t37 h Q):H12_10 t0 t4 t5 t6 t7 t37 h Q:=HL.step (L:=L12) ((X12_10_eq t0 t4 t5 t6 t7 t37 h Q).mp H)
noncomputable def X12_3 (t0 t4 t5:Value) (h:AH) (Q:RQ):Prop :=
 let t11:Value:=t5
 let t12:Value:=t0
 bq (lenS t12) fun t13 =>
 bq (binV Tryd.prog .lss 3 (.tmp 11) (.tmp 13) t11 t13 h) fun t14 =>
 condP (some t14)
 (let t15:Value:=t0
 let t16:Value:=t5
 bq (ixS t15 t16) fun t17 =>
 let t6:Value:=t17
 let t18:Value:=t6
 bq (binV Tryd.prog .eql 5 (.tmp 18) (.const (Value.int .u8 32)) t18 (Value.int .u8 32) h) fun t19 =>
 let t20:Value:=t19
 guardQ t20 false h (fun k=>k t6 h) fun t21 h =>
 guardQ t20 false h (fun k=>bq (binV Tryd.prog .eql 5 (.tmp 21) (.const (Value.int .u8 9)) t21 (Value.int .u8 9) h) fun v=>k v h) fun t22 h =>
 bq (pickV t20 (Value.bool true) t22) fun t23 =>
 let t24:Value:=t23
 guardQ t24 false h (fun k=>k t6 h) fun t25 h =>
 guardQ t24 false h (fun k=>bq (binV Tryd.prog .eql 5 (.tmp 25) (.const (Value.int .u8 10)) t25 (Value.int .u8 10) h) fun v=>k v h) fun t26 h =>
 bq (pickV t24 (Value.bool true) t26) fun t27 =>
 let t28:Value:=t27
 guardQ t28 false h (fun k=>k t6 h) fun t29 h =>
 guardQ t28 false h (fun k=>bq (binV Tryd.prog .eql 5 (.tmp 29) (.const (Value.int .u8 13)) t29 (Value.int .u8 13) h) fun v=>k v h) fun t30 h =>
 bq (pickV t28 (Value.bool true) t30) fun t31 =>
 condP (some t31)
 (let t32:Value:=t5
 bq (binV Tryd.prog .add 3 (.tmp 32) (.const (Value.int .i64 1)) t32 (Value.int .i64 1) h) fun t33 =>
 let t5:Value:=t33
 H12_3 t0 t4 t5 h Q)
 (let t34:Value:=t5
 bq (binV Tryd.prog .add 3 (.tmp 34) (.const (Value.int .i64 1)) t34 (Value.int .i64 1) h) fun t35 =>
 let t7:Value:=t35
 let t38:Value:=t6
 HC Tryd.prog 29 (([]:List Value)++[t38]++([]:List Value)).toArray h (resK (fun t39 h =>
 let t37:Value:=t39
 condP (some t37)
 (H12_10 t0 t4 t5 t6 t7 t37 h Q)
 (let t68:Value:=t6
 HC Tryd.prog 30 (([]:List Value)++[t68]++([]:List Value)).toArray h (resK (fun t69 h =>
 let t67:Value:=t69
 condP (some t67)
 (H12_14 t0 t4 t5 t6 t7 t67 h Q)
 (let t107:Value:=t6
 bq (binV Tryd.prog .eql 5 (.tmp 107) (.const (Value.int .u8 123)) t107 (Value.int .u8 123) h) fun t108 =>
 let t109:Value:=t108
 guardQ t109 false h (fun k=>k t6 h) fun t110 h =>
 guardQ t109 false h (fun k=>bq (binV Tryd.prog .eql 5 (.tmp 110) (.const (Value.int .u8 125)) t110 (Value.int .u8 125) h) fun v=>k v h) fun t111 h =>
 bq (pickV t109 (Value.bool true) t111) fun t112 =>
 let t113:Value:=t112
 guardQ t113 false h (fun k=>k t6 h) fun t114 h =>
 guardQ t113 false h (fun k=>bq (binV Tryd.prog .eql 5 (.tmp 114) (.const (Value.int .u8 40)) t114 (Value.int .u8 40) h) fun v=>k v h) fun t115 h =>
 bq (pickV t113 (Value.bool true) t115) fun t116 =>
 let t117:Value:=t116
 guardQ t117 false h (fun k=>k t6 h) fun t118 h =>
 guardQ t117 false h (fun k=>bq (binV Tryd.prog .eql 5 (.tmp 118) (.const (Value.int .u8 41)) t118 (Value.int .u8 41) h) fun v=>k v h) fun t119 h =>
 bq (pickV t117 (Value.bool true) t119) fun t120 =>
 let t121:Value:=t120
 guardQ t121 false h (fun k=>k t6 h) fun t122 h =>
 guardQ t121 false h (fun k=>bq (binV Tryd.prog .eql 5 (.tmp 122) (.const (Value.int .u8 44)) t122 (Value.int .u8 44) h) fun v=>k v h) fun t123 h =>
 bq (pickV t121 (Value.bool true) t123) fun t124 =>
 let t125:Value:=t124
 guardQ t125 false h (fun k=>k t6 h) fun t126 h =>
 guardQ t125 false h (fun k=>bq (binV Tryd.prog .eql 5 (.tmp 126) (.const (Value.int .u8 59)) t126 (Value.int .u8 59) h) fun v=>k v h) fun t127 h =>
 bq (pickV t125 (Value.bool true) t127) fun t128 =>
 let t129:Value:=t128
 guardQ t129 false h (fun k=>k t6 h) fun t130 h =>
 guardQ t129 false h (fun k=>bq (binV Tryd.prog .eql 5 (.tmp 130) (.const (Value.int .u8 61)) t130 (Value.int .u8 61) h) fun v=>k v h) fun t131 h =>
 bq (pickV t129 (Value.bool true) t131) fun t132 =>
 let t106:Value:=t132
 condP (some t106)
 (let t133:Value:=t4
 let t134:Value:=t5
 let t135:Value:=t0
 let t136:Value:=t5
 let t137:Value:=t7
 bq (sliceV Tryd.prog h 9 t135 (some t136) (some t137)) fun t138 =>
 bq (bd #[(Value.int .i64 0),(Value.int .i64 0),(Value.string (ByteArray.mk #[]))] [(0,1,(Value.int .i64 4)),(1,1,t134),(2,1,t138)]) fun t139 =>
 bq (bs 72 #[(Value.int .i64 0),(Value.int .i64 0),(Value.string (ByteArray.mk #[]))] 1 h [(0,3,t139)]) fun r=>(fun t140 h =>
 bq (apT 72 3 32 (some (Value.agg #[(Value.int .i64 0),(Value.int .i64 0),(Value.string (ByteArray.mk #[]))])) h t133 t140) fun r=>(fun t141 h =>
 let t4:Value:=t141
 K12_48 t0 t4 t7 h Q) r.1 r.2) r.1 r.2)
 (let t143:Value:=t6
 bq (binV Tryd.prog .eql 5 (.tmp 143) (.const (Value.int .u8 34)) t143 (Value.int .u8 34) h) fun t144 =>
 let t142:Value:=t144
 condP (some t142)
 (let t8:Value:=(Value.slice none 0 0)
 let t9:Value:=(Value.bool false)
 H12_24 t0 t4 t5 t7 t8 t9 h Q)
 (let t36:Value:=t5
 let t2:Value:=(Value.slice none 0 0)
 let t3:Value:=t36
 Q (.ret (.tuple [t2,t3].toArray)) h)))) (fun v h=>Q (.pan v) h)))) (fun v h=>Q (.pan v) h))))
 (let t214:Value:=t4
 let t215:Value:=t0
 bq (lenS t215) fun t216 =>
 bq (bd #[(Value.int .i64 0),(Value.int .i64 0),(Value.string (ByteArray.mk #[]))] [(0,1,(Value.int .i64 0)),(1,1,t216),(2,1,(Value.string (ByteArray.mk #[])))]) fun t217 =>
 bq (bs 72 #[(Value.int .i64 0),(Value.int .i64 0),(Value.string (ByteArray.mk #[]))] 1 h [(0,3,t217)]) fun r=>(fun t218 h =>
 bq (apT 72 3 32 (some (Value.agg #[(Value.int .i64 0),(Value.int .i64 0),(Value.string (ByteArray.mk #[]))])) h t214 t218) fun r=>(fun t219 h =>
 let t2:Value:=t219
 let t3:Value:=(Value.int .i64 (-1))
 Q (.ret (.tuple [t2,t3].toArray)) h) r.1 r.2) r.1 r.2)
theorem X12_3_eq (t0 t4 t5:Value) (h:AH) (Q:RQ):X12_3 t0 t4 t5 h Q=wpC Tryd.prog L12 (cAt code12 [.r,.r,.r,.l,.i,.i]) (mkA 220 [(0,t0),(4,t4),(5,t5)]) h (ctxAt Tryd.prog L12 code12 [.r,.r,.r,.l,.i,.i] (retK Tryd.prog res12 Q)):=by kernel_rfl
theorem X12_3_ok {t0 t4 t5:Value} {h:AH} {Q:RQ} (H:X12_3 t0 t4 t5 h Q):H12_3 t0 t4 t5 h Q:=HL.step (L:=L12) ((X12_3_eq t0 t4 t5 h Q).mp H)
noncomputable def X12 (t0:Value) (h:AH) (Q:RQ):Prop :=
 let t2:Value:=(Value.slice none 0 0)
 let t3:Value:=(Value.int .i64 0)
 let t4:Value:=(Value.slice none 0 0)
 let t5:Value:=(Value.int .i64 0)
 H12_3 t0 t4 t5 h Q
theorem X12_eq (t0:Value) (h:AH) (Q:RQ):X12 t0 h Q=wpC Tryd.prog L12 code12 (argA [t0] Tryd.f12.ntmps) h (retK Tryd.prog res12 Q):=by kernel_rfl
theorem X12_body:Tryd.f12.body=some code12:=by kernel_rfl
theorem X12_ok {t0:Value} {h:AH} {Q:RQ} (H:X12 t0 h Q):HC Tryd.prog 12 [t0].toArray h Q:=HC.body Tryd.func12 X12_body ((X12_eq t0 h Q).mp H)
end Go.Proofs.YtnaenhkldanjbaaDoor.X
end
