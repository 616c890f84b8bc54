import Derived.Test.YtibigfkeaemanaaGreatDoorZ35
set_option linter.unusedVariables false
set_option linter.unusedSimpArgs false
section
namespace Go.Proofs.YtibigfkeaemanaaGreatDoor.L
open Go.Ab Go.Lang Go.Proofs.YtibigfkeaemanaaGreatDoor.X
set_option maxRecDepth 100000
theorem byOne_size (it:Int→ByteArray) (e:Env):∀ b:Lang.Expr,byOne b=true→(exprV it e b).t.size=1
 | .mk op _ _ text args=>by
  intro h
  simp only [byOne,Bool.and_eq_true,decide_eq_true_eq] at h
  have:=eqT_iff.1 h.1
  subst this
  unfold exprV
  have e1:eqT o_string o_number=false:=by kernel_rfl
  have e2:eqT o_string o_string=true:=by kernel_rfl
  rw [e1,if_neg Bool.false_ne_true,e2,if_pos rfl]
  exact h.2
theorem loop_at {h:AH} {k:Nat} {r:Loop} {s:Option Nat} (g:h.get k=some (.loop r,s)):loopAt h k=some (r,s):=by
 unfold loopAt
 rw [g]
theorem eveach_ok {M:Nat} (hM1:4096 ≤ M) (hM:M ≤ 4611686018427387904) {hB:AH} {ke k2 k3 k4 k5:Nat} {t:Tri} {e:Env} {o:Lang.Out} {body:List Lang.Stmt} {name s b:ByteArray} {cc c4:Array Value} (S:EnvS hB ke t e o) (hs:s.size ≤ M) (hb:b.size ≤ M) (hi:M < 4294967281 ∨ b.size=1)
  (he:∀ p ∈ e,VOK M p.2) (hn:e.length + 1 + needB body ≤ 999999) (T:Tab hB) (L:LoE ke t) (HB:BlockP M ke body) (c1:cc[1]?=some (.string name)) (c12:cc[12]?=some (slV (encSs body)))
  (g2:hB.get k2=some (.cells #[.pointer (some ⟨ke,0,none⟩)] 74 (0,0),none)) (g3:hB.get k3=some (.cells cc 104 (0,0),none)) (g4:hB.get k4=some (.cells c4 68 (0,0),none)) (h4:c4[1]?=some (.string s)) (g5:hB.get k5=some (.cells #[.string b] 9 (0,0),none))
  (n2:k2 ≠ ke∧¬ t.has k2∧k2 < hB.size) (n3:k3 ≠ ke∧¬ t.has k3∧k3 < hB.size) (n4:k4 < hB.size) (n5:k5 < hB.size) {Q:RQ} {X1:AH→Nat→Prop}
  (hq:∀ hC t',EnvS hC ke t' e ((piecesV b.data.toList 256 s.data.toList).foldl (fun o p=>blockV itoaB body (e++[(name,{ t:=⟨p.toArray⟩ })]) o) o)→AdvE ke t hB hC→Mv hB t t'→Q (.ret (.tuple #[])) hC) :
  rndP none hB∧rangeQ Tryz.prog (.func (.func 64) [].toArray [.pointer (some ⟨k4,0,none⟩),.pointer (some ⟨k5,0,none⟩)].toArray) (rec50_15 (.pointer (some ⟨k2,0,none⟩)) (.pointer (some ⟨k3,0,none⟩))) hB
   (fun j h=>jumpX (Q (.ret (.tuple [].toArray)) h) (Q (.ret (.tuple [].toArray)) h) (X1 h) (fun l=>False) j) (fun v h=>Q (.pan v) h):=by
 refine ⟨trivial,?_⟩
 show hasBody Tryz.prog 64=true∧HC Tryz.prog 64 _ _ _
 refine ⟨hb_64,?_⟩
 obtain ⟨rc,hrc⟩:∃ rc,rc=rec50_15 (.pointer (some ⟨k2,0,none⟩)) (.pointer (some ⟨k3,0,none⟩)):=⟨_,rfl⟩
 have hst:rc.state=.ready:=by rw [hrc];rfl
 have hpe:rc.pending=none:=by rw [hrc];rfl
 rw [← hrc]
 refine X64_ok ?_
 unfold X64
 have KL:Kp hB.size hB (hB.push (.loop rc) none):=by (repeat (first | exact Kp.refl _ _ | assumption | refine Kp.push ?_ _ _ (by first | omega | (simp only [sz_push,sz_put];omega)) | refine Kp.put ?_ _ _ (by first | omega | (simp only [sz_push,sz_put];omega))))
 have gl:(hB.push (.loop rc) none).get hB.size=some (.loop rc,none):=get_push_eq rfl
 have zl:(hB.push (.loop rc) none).size=hB.size + 1:=by simp
 generalize hB.push (.loop rc) none=hL at KL gl zl ⊢
 have g2L:=(KL.get k2 n2.2.2).trans g2
 have g3L:=(KL.get k3 n3.2.2).trans g3
 have g4L:=(KL.get k4 n4).trans g4
 have g5L:=(KL.get k5 n5).trans g5
 have SL:=S.kp KL
 have TL:=T.kp KL
 have hkl:hB.size ≠ ke:=by have:=S.lt;omega
 have htl:¬ t.has hB.size:=fun hh=>by have:=S.lts _ hh;omega
 simp (disch:=(first | exact dz | fail)) only [g4L,g5L,h4,SXB,SX,reduceIte,Int.reduceLT,Int.reduceLE,Int.reduceToNat,Int.reduceBEq,Int.reduceBNe,Nat.reduceAdd,Nat.reduceMul,Nat.reduceSub,Nat.reduceLeDiff]
 refine HC.mono (pieces_ok (kl:=hB.size) (α:=Lang.Out) (M:=M) hM (Inv:=fun o' h'=>∃ t',EnvS h' ke t' e o'∧AdvE ke t hL h'∧Mv hL t t') (step:=fun o' p=>blockV itoaB body (e++[(name,{ t:=p })]) o') hb
  (fun o' h' ⟨t',S',A',M'⟩=>TL.advE A' L) hi (fun o1 h1 p K hp ⟨t1,S1,A1,M1⟩ hK=>?_) (Q:=fun r h'=>r=.ret (.tuple #[])∧∃ t',EnvS h' ke t' e ((piecesV b.data.toList 256 s.data.toList).foldl (fun o p=>blockV itoaB body (e++[(name,{ t:=⟨p.toArray⟩ })]) o) o)∧AdvE ke t hL h'∧Mv hL t t') s o hL hs ⟨t,SL,.refl _ _ _,.refl _ _⟩ fun h' hI=>⟨rfl,hI⟩) fun rr h3 hp=>?_
 ·have gl1:=(A1.get hB.size (by omega) hkl htl).trans gl
  have hm:∀ k,k < hL.size→¬ t.has k→¬ t1.has k:=fun k hk h1 h2=>by
   rcases M1 k h2 with h | h
   ·exact h1 h
   ·omega
  have g21:=(A1.get k2 (by omega) n2.1 n2.2.1).trans g2L
  have g31:=(A1.get k3 (by omega) n3.1 n3.2.1).trans g3L
  have z1:=A1.size
  have hrc2:rc = { rec50_15 (.pointer (some ⟨k2,0,none⟩)) (.pointer (some ⟨k3,0,none⟩)) with state:=.ready,pending:=none }:=by rw [hrc];rfl
  refine Y50_15_ok (st:=.ready) (pe:=none) (s:=none) (loop_at (hrc2 ▸ gl1)) ?_
  unfold Y50_15
  refine bq_of (loop_at gl1) ⟨hst,?_⟩
  have KB:∀ k,k ≠ hB.size→(h1.put hB.size (some (.loop { rc with state:=.busy },none))).get k=h1.get k:=fun k hk=>get_put_ne hk
  have glb:(h1.put hB.size (some (.loop { rc with state:=.busy },none))).get hB.size=some (.loop { rc with state:=.busy },none):=get_put_eq rfl
  have zb:(h1.put hB.size (some (.loop { rc with state:=.busy },none))).size=h1.size:=by simp
  dsimp only
  generalize h1.put hB.size (some (.loop { rc with state:=.busy },none))=hb1 at KB glb zb ⊢
  have htl1:=hm hB.size (by omega) htl
  have Sb:EnvS hb1 ke t1 e o1:=S1.keep (by omega) fun k hk=>KB k (by rcases hk with rfl | hk;exact fun e=>hkl e.symm;exact fun e=>htl1 (e ▸ hk))
  have g2b:=(KB k2 (by omega)).trans g21
  have g3b:=(KB k3 (by omega)).trans g31
  have Tb:Tab hb1:=by
   have T1:=TL.advE A1 L
   have hgn:=TL.size
   have hBn:=T.size
   obtain ⟨⟨e1,fz,s1,q1⟩,⟨m,e2,fz2,s2,q2⟩,q3⟩:=T1
   exact ⟨⟨e1,fz,s1,(KB _ (by omega)).trans q1⟩,⟨m,e2,fz2,s2,(KB _ (by omega)).trans q2⟩,by omega⟩
  simp (disch:=(first | exact dz | fail)) only [g2b,g3b,c1,SXB,SX,reduceIte,Int.reduceLT,Int.reduceLE,Int.reduceToNat,Int.reduceBEq,Int.reduceBNe,Nat.reduceAdd,Nat.reduceMul,Nat.reduceSub,Nat.reduceLeDiff]
  refine HC.mono (work_ok (M:=M) hb_67 (fun h1 Q=>clos2_ok c12) Sb he ⟨by show NumOK 0;unfold NumOK;omega,hp,(fun s hs=>by cases hs),Nat.zero_le _⟩ hn Tb (L.mv M1 TL) HB g2b g3b ⟨n2.1,hm k2 (by omega) n2.2.1,by omega⟩ ⟨n3.1,hm k3 (by omega) n3.2.1,by omega⟩) fun rr h3 hp3=>?_
  obtain ⟨rfl,t3,o3,S3,A3,M3,rfl⟩:=hp3
  simp only [resK_ret]
  have glc:=(A3.get hB.size (by omega) hkl htl1).trans glb
  have htl3:¬ t3.has hB.size:=fun hh=>by
   rcases M3 _ hh with q | q
   ·exact htl1 q
   ·omega
  unfold endRd
  refine bq_of (loop_at glc) ?_
  have z3:=A3.size
  refine hK _ ⟨t3,S3.keep (by simp) fun k hk=>get_put_ne (by rcases hk with rfl | hk;exact fun e=>hkl e.symm;exact fun e=>htl3 (e ▸ hk)),⟨by simp;omega,fun k q1 q2 q3=>?_⟩,M1.trans M3 (by omega)⟩
  by_cases hk:k=hB.size
  ·subst hk
   rw [get_put_eq rfl,gl]
   congr 3
   obtain ⟨f1,f2,f3,f4,f5,f6,f7,f8⟩:=rc
   simp only at hst hpe
   subst hst hpe
   rfl
  ·rw [get_put_ne hk,A3.get k (by omega) q2 (hm k q1 q3),KB k hk]
   exact A1.get k q1 q2 q3
 ·obtain ⟨rfl,t',S',A',M'⟩:=hp
  simp only [resK_ret]
  have gl':=(A'.get hB.size (by omega) hkl htl).trans gl
  have htl':¬ t'.has hB.size:=fun hh=>by
   rcases M' _ hh with q | q
   ·exact htl q
   ·omega
  show bq (loopAt h3 hB.size) _
  refine bq_of (loop_at gl') ⟨(by rw [hst];intro e;cases e),?_⟩
  rw [hpe]
  refine hq _ t' (S'.keep (by simp) fun k hk=>get_put_ne (by rcases hk with rfl | hk;exact fun e=>hkl e.symm;exact fun e=>htl' (e ▸ hk))) ⟨by have:=A'.size;simp;omega,fun k q1 q2 q3=>?_⟩ (M'.less (by omega))
  rw [get_put_ne (by omega),A'.get k (by omega) q2 q3]
  exact KL.get k q1
end Go.Proofs.YtibigfkeaemanaaGreatDoor.L
end
section
namespace Go.Proofs.YtibigfkeaemanaaGreatDoor.L
open Go.Ab Go.Lang Go.Proofs.YtibigfkeaemanaaGreatDoor.X
set_option maxRecDepth 100000
theorem stmt_step {M:Nat} (hM1:4096 ≤ M) (hM:M ≤ 4611686018427387904) {ke:Nat} {op name:ByteArray} {a b:Lang.Expr} {body els:List Lang.Stmt} (hok:okS (.mk op name a b body els)=true) (hi:M < 4294967281 ∨ oneS (.mk op name a b body els)=true)
  (HB:BlockP M ke body) (HE:BlockP M ke els):StmtP M ke (.mk op name a b body els):=by
 intro h t e o S he hn T L
 simp only [okS,Bool.and_eq_true] at hok
 obtain ⟨⟨⟨ho1,ho2⟩,ho3⟩,ho4⟩:=hok
 have hlt:=S.lt
 unfold needS at hn
 refine X50_ok ?_
 unfold X50
 have ec:(encS (.mk op name a b body els)).cells=(celS (.mk op name a b body els)).toArray:=encS_cells _
 simp only [new1,new2,ec,cells_pointer]
 obtain ⟨h1,hh⟩:∃ h1,h1=(h.push (.cells #[.pointer (some ⟨ke,0,none⟩)] 74 (0,0)) none).push (.cells (celS (.mk op name a b body els)).toArray 104 (0,0)) none:=⟨_,rfl⟩
 rw [← hh]
 have g2:h1.get h.size=some (.cells #[.pointer (some ⟨ke,0,none⟩)] 74 (0,0),none):=by rw [hh,get_push_ne (by simp)];exact get_push_eq rfl
 have g3:h1.get (h.push (.cells #[.pointer (some ⟨ke,0,none⟩)] 74 (0,0)) none).size=some (.cells (celS (.mk op name a b body els)).toArray 104 (0,0),none):=by rw [hh];exact get_push_eq rfl
 have K:Kp h.size h h1:=by rw [hh];(repeat (first | exact Kp.refl _ _ | assumption | refine Kp.push ?_ _ _ (by first | omega | (simp only [sz_push,sz_put];omega)) | refine Kp.put ?_ _ _ (by first | omega | (simp only [sz_push,sz_put];omega))))
 have hs1:h1.size=h.size + 2:=by rw [hh];simp
 rw [sz_push] at g3 ⊢
 clear hh
 refine bq_of (x:=.pointer (some ⟨ke,0,none⟩)) (by rw [ld1_ptr,g2];rfl) ?_
 refine bq_of (x:=.pointer (some ⟨h.size + 1,2,none⟩)) rfl ?_
 refine bq_of (ldN_S2 g3) ?_
 have hlen:e.length ≤ 1099511627776:=by omega
 refine HC.mono (vexpr_ok hM1 hM hlen he a ho1 h1 (S.kp K) (T.kp K)) fun rr h2 hp=>?_
 obtain ⟨rfl,v,rfl,hv⟩:=hp
 have vok:=expr_vok hM1 he a ho1
 simp only [resK_ret]
 refine bq_of (stN_full (get_push_eq rfl) rfl hv.size hv.ones) ?_
 obtain ⟨sv,hsv,rfl⟩:=hv
 generalize hx:exprV itoaB e a=x at hsv vok ⊢
 obtain ⟨hB,hh⟩:∃ hB,hB=(h2.push (.cells #[.int .i64 0,.string ⟨#[]⟩,.slice none 0 0] 68 (0,0)) none).put h2.size (some (.cells (Value.agg #[.int .i64 x.n,.string x.t,sv]).cells 68 (0,0),none)):=⟨_,rfl⟩
 rw [← hh]
 have hs2:h2.size=h.size + 1 + 1:=by omega
 have X:StB h hB ke (.mk op name a b body els) x sv:=by
  refine ⟨?_,?_,?_,?_,?_,hsv⟩
  ·rw [hh];(repeat (first | exact Kp.refl _ _ | assumption | refine Kp.push ?_ _ _ (by first | omega | (simp only [sz_push,sz_put];omega)) | refine Kp.put ?_ _ _ (by first | omega | (simp only [sz_push,sz_put];omega))))
  ·rw [hh];simp;omega
  ·rw [hh,get_put_ne (by omega),get_push_ne (by omega)];exact g2
  ·rw [hh,get_put_ne (by omega),get_push_ne (by omega)];exact g3
  ·rw [hh,hs2,get_put_eq rfl];rfl
 rw [hs2]
 clear hh g2 g3 K hs1 hs2 h2
 have SB:=S.kp X.K
 have TB:=T.kp X.K
 have hsz:=X.size
 have g2:=X.g2
 have g3:=X.g3
 have g4:=X.g4
 have hrow:=SB.row
 have nhas:∀ k,h.size ≤ k→¬ t.has k:=fun k hk hh=>by have:=S.lts k hh;omega
 have hsone:=slOne hsv
 generalize hq0:BP ke t (stmtV itoaB (.mk op name a b body els) e o).1 h (· = (stmtV itoaB (.mk op name a b body els) e o).2)=Q
 have hq:∀ hC t',EnvS hC ke t' (stmtV itoaB (.mk op name a b body els) e o).1 (stmtV itoaB (.mk op name a b body els) e o).2→AdvE ke t hB hC→Mv hB t t'→Q (.ret (.tuple #[])) hC:=fun hC t' S' A' M'=>by
  rw [← hq0]
  exact ⟨rfl,t',_,S',(AdvE.of_kp X.K).trans A' (.refl _ _),M'.less X.K.size,rfl⟩
 clear hq0
 unfold stmtV at hq
 simp only [hx] at hq
 have c0:=celS_0 (op:=op) (x:=name) (a:=a) (b:=b) (body:=body) (els:=els)
 have c1:=celS_1 (op:=op) (x:=name) (a:=a) (b:=b) (body:=body) (els:=els)
 have c12:=celS_12 (op:=op) (x:=name) (a:=a) (b:=b) (body:=body) (els:=els)
 have c13:=celS_13 (op:=op) (x:=name) (a:=a) (b:=b) (body:=body) (els:=els)
 have q7:=ldN_S7 g3
 generalize (celS (.mk op name a b body els)).toArray=cc at g3 c0 c1 c12 c13
 generalize hl5:ldN 5=l5 at q7
 simp (disch:=(first | exact dz | fail)) only [g3,c0,e_o_emit,SXB,SX,reduceIte,Int.reduceLT,Int.reduceLE,Int.reduceToNat,Int.reduceBEq,Int.reduceBNe,Nat.reduceAdd,Nat.reduceMul,Nat.reduceSub,Nat.reduceLeDiff]
 cases h_emit:eqT op o_emit with
 | true =>
  simp only [h_emit,if_true] at hq
  have eo:=SB.out.len
  rw [List.length_map] at eo
  by_cases hout:o.length < 1024
  ·have e1:(o.length:Int) < 1024:=by omega
   rw [if_pos hout] at hq
   simp (disch:=(first | exact dz | fail)) only [g2,hrow,eo,e1,g4,q7,SXB,SX,reduceIte,Int.reduceLT,Int.reduceLE,Int.reduceToNat,Int.reduceBEq,Int.reduceBNe,Nat.reduceAdd,Nat.reduceMul,Nat.reduceSub,Nat.reduceLeDiff]
   refine HC.mono (vexpr_ok hM1 hM hlen he b ho2 hB SB TB) fun rr h3 hp=>?_
   obtain ⟨rfl,w,rfl,hw⟩:=hp
   obtain ⟨sw,hsw,rfl⟩:=hw
   simp only [resK_ret]
   simp (disch:=(first | exact dz | fail)) only [g2,hrow,g4,SXB,SX,reduceIte,Int.reduceLT,Int.reduceLE,Int.reduceToNat,Int.reduceBEq,Int.reduceBNe,Nat.reduceAdd,Nat.reduceMul,Nat.reduceSub,Nat.reduceLeDiff]
   have Kp1:Kp h3.size h3 (h3.push (.cells #[.string x.t,.string (exprV itoaB e b).t] 40 (0,0)) none):=by (repeat (first | exact Kp.refl _ _ | assumption | refine Kp.push ?_ _ _ (by first | omega | (simp only [sz_push,sz_put];omega)) | refine Kp.put ?_ _ _ (by first | omega | (simp only [sz_push,sz_put];omega))))
   have gp:=get_push_eq (h:=h3) (o:=.cells #[.string x.t,.string (exprV itoaB e b).t] 40 (0,0)) (s:=none) (j:=h3.size) rfl
   have g2p:=(Kp1.get h.size (by omega)).trans g2
   have z1:=Kp1.size
   generalize h3.push (.cells #[.string x.t,.string (exprV itoaB e b).t] 40 (0,0)) none=h4 at Kp1 gp g2p z1 ⊢
   obtain ⟨n',h5,a1,G5,A5,M5⟩:=(SB.g.kp Kp1).appO (x:=.slice (some ⟨h3.size,0,none⟩) 1 1) (p:=(x.t,(exprV itoaB e b).t)) (Src.one gp rfl rfl) (by omega)
   refine bq_of a1 ?_
   have g25:=(A5.get h.size (by omega) (by omega) (nhas _ (by omega))).trans g2p
   have hrow5:=G5.row
   obtain ⟨y1,y2,y3,rfl⟩:=G5.out.isSl
   simp (disch:=(first | exact dz | fail)) only [g25,hrow5,SXB,SX,reduceIte,Int.reduceLT,Int.reduceLE,Int.reduceToNat,Int.reduceBEq,Int.reduceBNe,Nat.reduceAdd,Nat.reduceMul,Nat.reduceSub,Nat.reduceLeDiff]
   refine hq _ _ (G5.put (r':=⟨t.n,t.v,.slice y1 y2 y3⟩)).s (((AdvE.of_kp Kp1).trans A5 (.refl _ _)).put _) (M5.less z1)
  ·have e1:¬ (o.length:Int) < 1024:=by omega
   rw [if_neg hout] at hq
   simp (disch:=(first | exact dz | fail)) only [g2,hrow,eo,e1,SXB,SX,reduceIte,Int.reduceLT,Int.reduceLE,Int.reduceToNat,Int.reduceBEq,Int.reduceBNe,Nat.reduceAdd,Nat.reduceMul,Nat.reduceSub,Nat.reduceLeDiff]
   exact hq hB t SB (.refl _ _ _) (.refl _ _)
 | false =>
 simp only [h_emit,Bool.false_eq_true,if_false] at hq
 simp (disch:=(first | exact dz | fail)) only [e_o_let,SXB,SX,reduceIte,Int.reduceLT,Int.reduceLE,Int.reduceToNat,Int.reduceBEq,Int.reduceBNe,Nat.reduceAdd,Nat.reduceMul,Nat.reduceSub,Nat.reduceLeDiff]
 cases h_let:eqT op o_let with
 | true =>
  simp only [h_let,if_true] at hq
  have enl:(nmL e).length=e.length:=by unfold nmL;simp
  have wc:(Value.agg #[.int .i64 x.n,.string x.t,sv]).cells = #[.int .i64 x.n,.string x.t,sv]:=rfl
  have hvr:VR (.agg #[.int .i64 x.n,.string x.t,sv]) (name,x).2:=⟨sv,hsv,rfl⟩
  have full:∀ (h1 h3:AH) (n' v':Value),Kp hB.size hB h1→EnvG h3 ke t ⟨n',v',t.o⟩ (nmL e++[.string name]) (e++[(name,x)]) o→AdvE ke t h1 h3→Mv h1 t ⟨n',v',t.o⟩ →
    Q (.ret (.tuple #[])) ((h3.put ke (some (.cells #[n',t.v,t.o] 78 (0,0),none))).put ke (some (.cells #[n',v',t.o] 78 (0,0),none))) :=
   fun h1 h3 n' v' K G A M=>by
    have S4:=(G.put (r':=⟨n',t.v,t.o⟩)).put (r':=⟨n',v',t.o⟩)
    rw [← nmL_snoc e (name,x)] at S4
    exact hq _ _ S4.s ((((AdvE.of_kp K).trans A (.refl _ _)).put _).put _) (M.less K.size)
  simp (disch:=(first | exact dz | fail)) only [g2,hrow,g3,c1,g4,hsone,SXB,SX,reduceIte,Int.reduceLT,Int.reduceLE,Int.reduceToNat,Int.reduceBEq,Int.reduceBNe,Nat.reduceAdd,Nat.reduceMul,Nat.reduceSub,Nat.reduceLeDiff]
  refine ⟨⟨?_,?_⟩,?_⟩
  ·have K1:Kp hB.size hB (hB.push (.cells #[.string name] 9 (0,0)) none):=by (repeat (first | exact Kp.refl _ _ | assumption | refine Kp.push ?_ _ _ (by first | omega | (simp only [sz_push,sz_put];omega)) | refine Kp.put ?_ _ _ (by first | omega | (simp only [sz_push,sz_put];omega))))
   have gn:=get_push_eq (h:=hB) (o:=(.cells #[.string name] 9 (0,0))) (s:=none) (j:=hB.size) rfl
   have z1:(hB.push (.cells #[.string name] 9 (0,0)) none).size=hB.size + 1:=by simp
   generalize hB.push (.cells #[.string name] 9 (0,0)) none=h1 at K1 gn z1 ⊢
   have g21:=(K1.get h.size (by omega)).trans g2
   have g31:=(K1.get (h.size + 1) (by omega)).trans g3
   have g41:=(K1.get (h.size + 1 + 1) (by omega)).trans g4
   obtain ⟨n',h2,a1,G2,A2,M2⟩:=(SB.g.kp K1).appN (x:=.slice (some ⟨hB.size,0,none⟩) 1 1) (Src.one gn rfl rfl) (by rw [enl];omega)
   refine bq_of a1 ?_
   have hr2:=G2.row
   have g22:=(A2.get h.size (by omega) (by omega) (nhas _ (by omega))).trans g21
   have g32:=(A2.get (h.size + 1) (by omega) (by omega) (nhas _ (by omega))).trans g31
   have g42:=(A2.get (h.size + 1 + 1) (by omega) (by omega) (nhas _ (by omega))).trans g41
   have z2:=A2.size
   obtain ⟨x1,x2,x3,rfl⟩:=G2.names.isSl
   simp (disch:=(first | exact dz | fail)) only [hr2,g22,g32,g42,c1,hsone,SXB,SX,reduceIte,Int.reduceLT,Int.reduceLE,Int.reduceToNat,Int.reduceBEq,Int.reduceBNe,Nat.reduceAdd,Nat.reduceMul,Nat.reduceSub,Nat.reduceLeDiff]
   obtain ⟨v',h3,b1,G3,A3,M3⟩:=(G2.kp (h':=h2.push (.cells #[.int .i64 x.n,.string x.t,sv] 68 (0,0)) none) (by (repeat (first | exact Kp.refl _ _ | assumption | refine Kp.push ?_ _ _ (by first | omega | (simp only [sz_push,sz_put];omega)) | refine Kp.put ?_ _ _ (by first | omega | (simp only [sz_push,sz_put];omega)))))).appV (x:=.slice (some ⟨h2.size,0,none⟩) 1 1) (p:=(name,x)) (Src.one (get_push_eq rfl) wc rfl) hvr (by omega)
   refine bq_of b1 ?_
   have hr3:=G3.row
   have g23:=(A3.get h.size (by simp;omega) (by omega) (fun hh=>by rcases M2 _ hh with q | q;exact nhas _ (by omega) q;omega)).trans ((get_push_ne (by omega)).trans g22)
   obtain ⟨y1,y2,y3,rfl⟩:∃ a n c,v' = .slice a n c:=by obtain ⟨vs,B,_⟩:=G3.vals;exact B.isSl
   have g23':=(get_put_ne (h:=h3) (k:=ke) (j:=h.size) (v:=some (.cells #[.slice x1 x2 x3,t.v,t.o] 78 (0,0),none)) (by omega)).trans g23
   simp (disch:=(first | exact dz | fail)) only [hr3,g23,g23',SXB,SX,reduceIte,Int.reduceLT,Int.reduceLE,Int.reduceToNat,Int.reduceBEq,Int.reduceBNe,Nat.reduceAdd,Nat.reduceMul,Nat.reduceSub,Nat.reduceLeDiff]
   exact full h1 h3 _ _ K1 G3 (A2.trans ((AdvE.of_kp (by (repeat (first | exact Kp.refl _ _ | assumption | refine Kp.push ?_ _ _ (by first | omega | (simp only [sz_push,sz_put];omega)) | refine Kp.put ?_ _ _ (by first | omega | (simp only [sz_push,sz_put];omega)))))).trans A3 (.refl _ _)) M2) (M2.trans (M3.less (h0:=h2) (by simp)) A2.size)
  ·have K1:Kp hB.size hB ((hB.push (.cells #[.string name] 9 (0,0)) none).push (.cells #[.int .i64 x.n,.string x.t,sv] 68 (0,0)) none):=by (repeat (first | exact Kp.refl _ _ | assumption | refine Kp.push ?_ _ _ (by first | omega | (simp only [sz_push,sz_put];omega)) | refine Kp.put ?_ _ _ (by first | omega | (simp only [sz_push,sz_put];omega))))
   have gn:=((get_push_ne (h:=hB.push (.cells #[.string name] 9 (0,0)) none) (o:=(.cells #[.int .i64 x.n,.string x.t,sv] 68 (0,0))) (s:=none) (j:=hB.size) (by simp)).trans (get_push_eq rfl))
   have gv:=(get_push_eq (h:=hB.push (.cells #[.string name] 9 (0,0)) none) (o:=(.cells #[.int .i64 x.n,.string x.t,sv] 68 (0,0))) (s:=none) (j:=hB.size + 1) (by simp))
   have z1:((hB.push (.cells #[.string name] 9 (0,0)) none).push (.cells #[.int .i64 x.n,.string x.t,sv] 68 (0,0)) none).size=hB.size + 2:=by simp
   generalize (hB.push (.cells #[.string name] 9 (0,0)) none).push (.cells #[.int .i64 x.n,.string x.t,sv] 68 (0,0)) none=h1 at K1 gn gv z1 ⊢
   have g21:=(K1.get h.size (by omega)).trans g2
   have g31:=(K1.get (h.size + 1) (by omega)).trans g3
   have g41:=(K1.get (h.size + 1 + 1) (by omega)).trans g4
   obtain ⟨n',h2,a1,G2,A2,M2⟩:=(SB.g.kp K1).appN (x:=.slice (some ⟨hB.size,0,none⟩) 1 1) (Src.one gn rfl rfl) (by rw [enl];omega)
   refine bq_of a1 ?_
   have hr2:=G2.row
   have g22:=(A2.get h.size (by omega) (by omega) (nhas _ (by omega))).trans g21
   have g32:=(A2.get (h.size + 1) (by omega) (by omega) (nhas _ (by omega))).trans g31
   have g42:=(A2.get (h.size + 1 + 1) (by omega) (by omega) (nhas _ (by omega))).trans g41
   have z2:=A2.size
   obtain ⟨x1,x2,x3,rfl⟩:=G2.names.isSl
   have gv2:=(A2.get (hB.size + 1) (by omega) (by omega) (nhas _ (by omega))).trans gv
   simp (disch:=(first | exact dz | fail)) only [hr2,g22,g32,g42,c1,hsone,SXB,SX,reduceIte,Int.reduceLT,Int.reduceLE,Int.reduceToNat,Int.reduceBEq,Int.reduceBNe,Nat.reduceAdd,Nat.reduceMul,Nat.reduceSub,Nat.reduceLeDiff]
   obtain ⟨v',h3,b1,G3,A3,M3⟩:=G2.appV (x:=.slice (some ⟨hB.size + 1,0,none⟩) 1 1) (p:=(name,x)) (Src.one gv2 wc rfl) hvr (by omega)
   refine bq_of b1 ?_
   have hr3:=G3.row
   have g23:=(A3.get h.size (by omega) (by omega) (fun hh=>by rcases M2 _ hh with q | q;exact nhas _ (by omega) q;omega)).trans g22
   obtain ⟨y1,y2,y3,rfl⟩:∃ a n c,v' = .slice a n c:=by obtain ⟨vs,B,_⟩:=G3.vals;exact B.isSl
   simp (disch:=(first | exact dz | fail)) only [hr3,g23,SXB,SX,reduceIte,Int.reduceLT,Int.reduceLE,Int.reduceToNat,Int.reduceBEq,Int.reduceBNe,Nat.reduceAdd,Nat.reduceMul,Nat.reduceSub,Nat.reduceLeDiff]
   exact full h1 h3 _ _ K1 G3 (A2.trans A3 M2) (M2.trans M3 A2.size)
  ·have K1:Kp hB.size hB ((hB.push (.cells #[.int .i64 x.n,.string x.t,sv] 68 (0,0)) none).push (.cells #[.string name] 9 (0,0)) none):=by (repeat (first | exact Kp.refl _ _ | assumption | refine Kp.push ?_ _ _ (by first | omega | (simp only [sz_push,sz_put];omega)) | refine Kp.put ?_ _ _ (by first | omega | (simp only [sz_push,sz_put];omega))))
   have gn:=(get_push_eq (h:=hB.push (.cells #[.int .i64 x.n,.string x.t,sv] 68 (0,0)) none) (o:=(.cells #[.string name] 9 (0,0))) (s:=none) (j:=hB.size + 1) (by simp))
   have gv:=((get_push_ne (h:=hB.push (.cells #[.int .i64 x.n,.string x.t,sv] 68 (0,0)) none) (o:=(.cells #[.string name] 9 (0,0))) (s:=none) (j:=hB.size) (by simp)).trans (get_push_eq rfl))
   have z1:((hB.push (.cells #[.int .i64 x.n,.string x.t,sv] 68 (0,0)) none).push (.cells #[.string name] 9 (0,0)) none).size=hB.size + 2:=by simp
   generalize (hB.push (.cells #[.int .i64 x.n,.string x.t,sv] 68 (0,0)) none).push (.cells #[.string name] 9 (0,0)) none=h1 at K1 gn gv z1 ⊢
   have g21:=(K1.get h.size (by omega)).trans g2
   have g31:=(K1.get (h.size + 1) (by omega)).trans g3
   have g41:=(K1.get (h.size + 1 + 1) (by omega)).trans g4
   obtain ⟨n',h2,a1,G2,A2,M2⟩:=(SB.g.kp K1).appN (x:=.slice (some ⟨hB.size + 1,0,none⟩) 1 1) (Src.one gn rfl rfl) (by rw [enl];omega)
   refine bq_of a1 ?_
   have hr2:=G2.row
   have g22:=(A2.get h.size (by omega) (by omega) (nhas _ (by omega))).trans g21
   have g32:=(A2.get (h.size + 1) (by omega) (by omega) (nhas _ (by omega))).trans g31
   have g42:=(A2.get (h.size + 1 + 1) (by omega) (by omega) (nhas _ (by omega))).trans g41
   have z2:=A2.size
   obtain ⟨x1,x2,x3,rfl⟩:=G2.names.isSl
   have gv2:=(A2.get (hB.size) (by omega) (by omega) (nhas _ (by omega))).trans gv
   simp (disch:=(first | exact dz | fail)) only [hr2,g22,g32,g42,c1,hsone,SXB,SX,reduceIte,Int.reduceLT,Int.reduceLE,Int.reduceToNat,Int.reduceBEq,Int.reduceBNe,Nat.reduceAdd,Nat.reduceMul,Nat.reduceSub,Nat.reduceLeDiff]
   obtain ⟨v',h3,b1,G3,A3,M3⟩:=G2.appV (x:=.slice (some ⟨hB.size,0,none⟩) 1 1) (p:=(name,x)) (Src.one gv2 wc rfl) hvr (by omega)
   refine bq_of b1 ?_
   have hr3:=G3.row
   have g23:=(A3.get h.size (by omega) (by omega) (fun hh=>by rcases M2 _ hh with q | q;exact nhas _ (by omega) q;omega)).trans g22
   obtain ⟨y1,y2,y3,rfl⟩:∃ a n c,v' = .slice a n c:=by obtain ⟨vs,B,_⟩:=G3.vals;exact B.isSl
   simp (disch:=(first | exact dz | fail)) only [hr3,g23,SXB,SX,reduceIte,Int.reduceLT,Int.reduceLE,Int.reduceToNat,Int.reduceBEq,Int.reduceBNe,Nat.reduceAdd,Nat.reduceMul,Nat.reduceSub,Nat.reduceLeDiff]
   exact full h1 h3 _ _ K1 G3 (A2.trans A3 M2) (M2.trans M3 A2.size)
 | false =>
 simp only [h_let,Bool.false_eq_true,if_false] at hq
 simp (disch:=(first | exact dz | fail)) only [e_o_if,SXB,SX,reduceIte,Int.reduceLT,Int.reduceLE,Int.reduceToNat,Int.reduceBEq,Int.reduceBNe,Nat.reduceAdd,Nat.reduceMul,Nat.reduceSub,Nat.reduceLeDiff]
 cases h_if:eqT op o_if with
 | true =>
  simp only [h_if,if_true] at hq
  cases hne:(x.n != 0) with
  | true =>
   simp only [hne,if_true] at hq
   simp (disch:=(first | exact dz | fail)) only [g4,hne,g2,g3,c12,SXB,SX,reduceIte,Int.reduceLT,Int.reduceLE,Int.reduceToNat,Int.reduceBEq,Int.reduceBNe,Nat.reduceAdd,Nat.reduceMul,Nat.reduceSub,Nat.reduceLeDiff]
   refine HC.mono (HB hB t e o SB he (by omega) TB L) fun rr h3 hp=>?_
   obtain ⟨rfl,t3,o3,S3,A3,M3,rfl⟩:=hp
   simp only [resK_ret]
   exact hq h3 t3 S3 A3 M3
  | false =>
   simp only [hne,Bool.false_eq_true,if_false] at hq
   simp (disch:=(first | exact dz | fail)) only [g4,hne,g2,g3,c13,SXB,SX,reduceIte,Int.reduceLT,Int.reduceLE,Int.reduceToNat,Int.reduceBEq,Int.reduceBNe,Nat.reduceAdd,Nat.reduceMul,Nat.reduceSub,Nat.reduceLeDiff]
   refine HC.mono (HE hB t e o SB he (by omega) TB L) fun rr h3 hp=>?_
   obtain ⟨rfl,t3,o3,S3,A3,M3,rfl⟩:=hp
   simp only [resK_ret]
   exact hq h3 t3 S3 A3 M3
 | false =>
 simp only [h_if,Bool.false_eq_true,if_false] at hq
 simp (disch:=(first | exact dz | fail)) only [e_o_each,SXB,SX,reduceIte,Int.reduceLT,Int.reduceLE,Int.reduceToNat,Int.reduceBEq,Int.reduceBNe,Nat.reduceAdd,Nat.reduceMul,Nat.reduceSub,Nat.reduceLeDiff]
 cases h_each:eqT op o_each with
 | true =>
  simp only [h_each,if_true] at hq
  simp (disch:=(first | exact dz | fail)) only [g2,g3,q7,SXB,SX,reduceIte,Int.reduceLT,Int.reduceLE,Int.reduceToNat,Int.reduceBEq,Int.reduceBNe,Nat.reduceAdd,Nat.reduceMul,Nat.reduceSub,Nat.reduceLeDiff]
  refine HC.mono (vexpr_ok hM1 hM hlen he b ho2 hB SB TB) fun rr h3 hp=>?_
  obtain ⟨rfl,w,rfl,hw⟩:=hp
  obtain ⟨sw,hsw,rfl⟩:=hw
  have vokb:=expr_vok hM1 he b ho2
  have hib:M < 4294967281 ∨ (exprV itoaB e b).t.size=1:=by
   rcases hi with hi | hi
   ·exact .inl hi
   ·refine .inr (byOne_size _ _ b ?_)
    simp only [oneS,h_each,Bool.and_eq_true,Bool.not_true,Bool.false_or] at hi
    exact hi.1.1
  generalize exprV itoaB e b=y at hq vokb hib hsw ⊢
  simp only [resK_ret]
  refine bq_of (x:=.string y.t) rfl ?_
  simp (disch:=(first | exact dz | fail)) only [SXB,SX,reduceIte,Int.reduceLT,Int.reduceLE,Int.reduceToNat,Int.reduceBEq,Int.reduceBNe,Nat.reduceAdd,Nat.reduceMul,Nat.reduceSub,Nat.reduceLeDiff]
  have KC:Kp h3.size h3 ((h3.push (.cells #[.string ⟨#[]⟩] 9 (0,0)) none).put h3.size (some (.cells #[.string y.t] 9 (0,0),none))):=by (repeat (first | exact Kp.refl _ _ | assumption | refine Kp.push ?_ _ _ (by first | omega | (simp only [sz_push,sz_put];omega)) | refine Kp.put ?_ _ _ (by first | omega | (simp only [sz_push,sz_put];omega))))
  have g5:=get_put_eq (h:=h3.push (.cells #[.string ⟨#[]⟩] 9 (0,0)) none) (k:=h3.size) (j:=h3.size) (v:=some (.cells #[.string y.t] 9 (0,0),none)) rfl
  have zC:((h3.push (.cells #[.string ⟨#[]⟩] 9 (0,0)) none).put h3.size (some (.cells #[.string y.t] 9 (0,0),none))).size=h3.size + 1:=by simp
  generalize (h3.push (.cells #[.string ⟨#[]⟩] 9 (0,0)) none).put h3.size (some (.cells #[.string y.t] 9 (0,0),none))=hC at KC g5 zC ⊢
  exact eveach_ok (X1:=fun h i=>if i=1 then Q (.ret (.tuple #[])) h else if i=0 then Q (.ret (.tuple #[])) h else False) (M:=M) (s:=x.t) (b:=y.t) hM1 hM (SB.kp KC) vok.t vokb.t hib he (by omega) (TB.kp KC) L HB c1 c12 ((KC.get _ (by omega)).trans g2) ((KC.get _ (by omega)).trans g3) ((KC.get _ (by omega)).trans g4) rfl g5 ⟨by omega,nhas _ (by omega),by omega⟩ ⟨by omega,nhas _ (by omega),by omega⟩ (by omega) (by omega)
   fun hD t' S' A' M'=>hq hD t' S' ((AdvE.of_kp KC).trans A' (.refl _ _)) (M'.less (by omega))
 | false =>
 simp only [h_each,Bool.false_eq_true,if_false] at hq
 simp (disch:=(first | exact dz | fail)) only [e_o_for,SXB,SX,reduceIte,Int.reduceLT,Int.reduceLE,Int.reduceToNat,Int.reduceBEq,Int.reduceBNe,Nat.reduceAdd,Nat.reduceMul,Nat.reduceSub,Nat.reduceLeDiff]
 cases h_for:eqT op o_for with
 | true =>
  simp only [h_for,if_true] at hq
  have esl:=hsv.len
  have esl2:(strL x.l).length=x.l.length:=by unfold strL;simp
  rw [esl2] at esl
  have emin:min ((x.l.length:Nat):Int) 256=((min x.l.length 256:Nat):Int):=by omega
  obtain ⟨s',hs1,hs2⟩:=slHi (h:=hB) hsv (k:=min x.l.length 256) (Nat.min_le_left _ _)
  have etk:x.l.take (min x.l.length 256)=x.l.take 256:=by
   by_cases hl:x.l.length ≤ 256
   ·rw [Nat.min_eq_left hl,List.take_of_length_le (Nat.le_refl _),List.take_of_length_le hl]
   ·rw [Nat.min_eq_right (by omega)]
  rw [etk] at hs2
  have es':=hs2.len
  have es2:(strL (x.l.take 256)).length=(x.l.take 256).length:=by unfold strL;simp
  rw [es2] at es'
  simp (disch:=(first | exact dz | fail)) only [g4,esl,min_ite,emin,hs1,es',SXB,SX,reduceIte,Int.reduceLT,Int.reduceLE,Int.reduceToNat,Int.reduceBEq,Int.reduceBNe,Nat.reduceAdd,Nat.reduceMul,Nat.reduceSub,Nat.reduceLeDiff]
  refine for_loop hM1 hs2 (fun s hs=>vok.l s (List.mem_of_mem_take hs)) (by rw [List.length_take];omega) he (by omega) TB L HB c1 c12 g2 g3 ⟨by omega,nhas _ (by omega),by omega⟩ ⟨by omega,nhas _ (by omega),by omega⟩ hq (x.l.take 256) 0 hB t o rfl (Nat.zero_le _) SB (.refl _ _ _) (.refl _ _) rfl
 | false =>
 simp only [h_for,Bool.false_eq_true,if_false] at hq
 simp (disch:=(first | exact dz | fail)) only [SXB,SX,reduceIte,Int.reduceLT,Int.reduceLE,Int.reduceToNat,Int.reduceBEq,Int.reduceBNe,Nat.reduceAdd,Nat.reduceMul,Nat.reduceSub,Nat.reduceLeDiff]
 exact hq hB t SB (.refl _ _ _) (.refl _ _)
end Go.Proofs.YtibigfkeaemanaaGreatDoor.L
end
section
namespace Go.Proofs.YtibigfkeaemanaaGreatDoor.L
open Go.Ab Go.Lang Go.Proofs.YtibigfkeaemanaaGreatDoor.X
set_option maxRecDepth 100000
mutual
theorem stmt_all {M:Nat} (hM1:4096 ≤ M) (hM:M ≤ 4611686018427387904) {ke:Nat}:∀ s:Lang.Stmt,okS s=true→(M < 4294967281 ∨ oneS s=true)→StmtP M ke s
 | .mk op name a b body els=>fun hok hi=>by
  have ho:=hok
  simp only [okS,Bool.and_eq_true] at ho
  have hib:M < 4294967281 ∨ (oneB body=true∧oneB els=true):=by
   rcases hi with h | h
   ·exact .inl h
   ·simp only [oneS,Bool.and_eq_true] at h
    exact .inr ⟨h.1.2,h.2⟩
  exact stmt_step hM1 hM hok hi (evblock_ok hM1 ho.1.2 (stmts_all hM1 hM body ho.1.2 (hib.imp id fun h=>h.1))) (evblock_ok hM1 ho.2 (stmts_all hM1 hM els ho.2 (hib.imp id fun h=>h.2)))
theorem stmts_all {M:Nat} (hM1:4096 ≤ M) (hM:M ≤ 4611686018427387904) {ke:Nat}:∀ l:List Lang.Stmt,okB l=true→(M < 4294967281 ∨ oneB l=true)→∀ s ∈ l,StmtP M ke s
 | []=>fun _ _ s hs=>by cases hs
 | y::l=>fun hok hi s hs=>by
  simp only [okB,Bool.and_eq_true] at hok
  have hib:M < 4294967281 ∨ (oneS y=true∧oneB l=true):=by
   rcases hi with h | h
   ·exact .inl h
   ·simp only [oneB,Bool.and_eq_true] at h
    exact .inr h
  by_cases hxy:s=y
  ·rw [hxy]
   exact stmt_all hM1 hM y hok.1 (hib.imp id fun h=>h.1)
  ·have hx':s ∈ l:=by
    cases hs with
    | head=>exact absurd rfl hxy
    | tail _ h=>exact h
   exact stmts_all hM1 hM l hok.2 (hib.imp id fun h=>h.2) s hx'
end
theorem block_all {M:Nat} (hM1:4096 ≤ M) (hM:M ≤ 4611686018427387904) {ke:Nat} {l:List Lang.Stmt} (hok:okB l=true) (hi:M < 4294967281 ∨ oneB l=true):BlockP M ke l:=evblock_ok hM1 hok (stmts_all hM1 hM l hok hi)
def OutP (h:AH) (out:Lang.Out) (r:Res) (h':AH):Prop:=∃ ov,r=.ret ov∧Kp h.size h h'∧Gs 40 2 h' ov (out.map encPair)∧∀ k,blkOf ov=some k→h.size ≤ k∧k < h'.size
theorem evrun_ok {M:Nat} (hM1:4096 ≤ M) (hM:M ≤ 4611686018427387904) {h h0:AH} {l:List Lang.Stmt} (hok:okB l=true) (hi:M < 4294967281 ∨ oneB l=true) {e:Env} (he:∀ p ∈ e,VOK M p.2) (hn:e.length + needB l ≤ 999999) (T:Tab h0) (K:Kp h.size h h0) (hgn:10 ≤ h.size)
  {nv vv:Value} {vs:List Value} (N:Gs 9 1 h0 nv (nmL e)) (B:Gs 68 3 h0 vv vs) (R:VRs vs e) (hk1:∀ k,blkOf nv=some k→h.size ≤ k∧k < h0.size) (hk2:∀ k,blkOf vv=some k→h.size ≤ k∧k < h0.size) (d:∀ k,blkOf nv=some k→blkOf vv ≠ some k) :
  HC Tryz.prog 18 [slV (encSs l),nv,vv].toArray h0 (OutP h (blockV itoaB l e [])):=by
 refine X18_ok ?_
 unfold X18
 have hz:=K.size
 obtain ⟨n1,n2,n3,rfl⟩:=N.isSl
 obtain ⟨v1,v2,v3,rfl⟩:=B.isSl
 have S:EnvS (h0.push (.cells #[.slice n1 n2 n3,.slice v1 v2 v3,.slice none 0 0] 78 (0,0)) none) h0.size ⟨.slice n1 n2 n3,.slice v1 v2 v3,.slice none 0 0⟩ e []:=by
  refine ⟨get_push_eq rfl,N.mono fun k hk=>get_push_ne (by have:=hk1 k hk;omega),⟨vs,B.mono fun k hk=>get_push_ne (by have:=hk2 k hk;omega),R⟩,.nil,?_,d,(fun k _ hk=>by cases hk),(fun k _ hk=>by cases hk),(by simp),fun k hk=>?_⟩
  ·rintro (hk | hk | hk)
   ·have:=hk1 _ hk;omega
   ·have:=hk2 _ hk;omega
   ·cases hk
  ·rcases hk with hk | hk | hk
   ·have:=hk1 k hk;simp;omega
   ·have:=hk2 k hk;simp;omega
   ·cases hk
 have T1:=T.kp (h':=h0.push (.cells #[.slice n1 n2 n3,.slice v1 v2 v3,.slice none 0 0] 78 (0,0)) none) (by (repeat (first | exact Kp.refl _ _ | assumption | refine Kp.push ?_ _ _ (by first | omega | (simp only [sz_push,sz_put];omega)) | refine Kp.put ?_ _ _ (by first | omega | (simp only [sz_push,sz_put];omega)))))
 have L:LoE h0.size ⟨.slice n1 n2 n3,.slice v1 v2 v3,.slice none 0 0⟩:=⟨by omega,fun k hk=>by
  rcases hk with hk | hk | hk
  ·have:=hk1 k hk;omega
  ·have:=hk2 k hk;omega
  ·cases hk⟩
 simp (disch:=(first | exact dz | fail)) only [SXB,SX,reduceIte,Int.reduceLT,Int.reduceLE,Int.reduceToNat,Int.reduceBEq,Int.reduceBNe,Nat.reduceAdd,Nat.reduceMul,Nat.reduceSub,Nat.reduceLeDiff]
 refine HC.mono (block_all hM1 hM hok hi _ _ e [] S he hn T1 L) fun r h2 hp=>?_
 obtain ⟨rfl,t2,o2,S2,A2,M2,rfl⟩:=hp
 simp only [resK_ret]
 have hr2:=S2.row
 simp (disch:=(first | exact dz | fail)) only [hr2,SXB,SX,reduceIte,Int.reduceLT,Int.reduceLE,Int.reduceToNat,Int.reduceBEq,Int.reduceBNe,Nat.reduceAdd,Nat.reduceMul,Nat.reduceSub,Nat.reduceLeDiff]
 have z2:=A2.size
 simp only [sz_push] at z2
 refine ⟨_,rfl,⟨by omega,fun k hk=>?_⟩,S2.out,fun k hk=>⟨?_,S2.lts k (.inr (.inr hk))⟩⟩
 ·rw [A2.get k (by simp;omega) (by omega) fun hh=>?_,get_push_ne (by omega)]
  ·exact K.get k hk
  ·rcases hh with hh | hh | hh
   ·have:=hk1 k hh;omega
   ·have:=hk2 k hh;omega
   ·cases hh
 ·rcases M2 k (.inr (.inr hk)) with hh | hh
  ·rcases hh with hh | hh | hh
   ·have:=hk1 k hh;omega
   ·have:=hk2 k hh;omega
   ·cases hh
  ·simp at hh;omega
theorem evmap_ok {M:Nat} (hM1:4096 ≤ M) (hM:M ≤ 4611686018427387904) {h:AH} {p:Lang.Prog} (hok:okB p.map=true) (hi:M < 4294967281 ∨ oneB p.map=true) (hn:2 + needB p.map ≤ 999999) (T:Tab h) {q:Nat} {fz:Nat × Nat} {so:Option Nat} (gq:h.get q=some (.cells (celP p).toArray 66 fz,so)) {key val:ByteArray} (hk:key.size ≤ M) (hv:val.size ≤ M) :
  HC Tryz.prog 8 [.pointer (some ⟨q,0,none⟩),.string key,.string val].toArray h (OutP h (mapV itoaB p key val)):=by
 refine X8_ok ?_
 unfold X8
 have p0:(celP p).toArray[0]?=some (slV (encSs p.map)):=rfl
 generalize (celP p).toArray=cc at gq p0
 simp (disch:=(first | exact dz | fail)) only [gq,p0,SXB,SX,reduceIte,Int.reduceLT,Int.reduceLE,Int.reduceToNat,Int.reduceBEq,Int.reduceBNe,Nat.reduceAdd,Nat.reduceMul,Nat.reduceSub,Nat.reduceLeDiff]
 have hgn:=T.size
 have K:Kp h.size h ((h.push (.cells #[.string n_key,.string n_value] 9 (0,0)) none).push (.cells #[.int .i64 0,.string key,.slice none 0 0,.int .i64 0,.string val,.slice none 0 0] 68 (0,0)) none):=by (repeat (first | exact Kp.refl _ _ | assumption | refine Kp.push ?_ _ _ (by first | omega | (simp only [sz_push,sz_put];omega)) | refine Kp.put ?_ _ _ (by first | omega | (simp only [sz_push,sz_put];omega))))
 have nok:∀ t:ByteArray,t.size ≤ M→VOK M { t:=t }:=fun t ht=>⟨by show NumOK 0;unfold NumOK;omega,ht,(fun s hs=>by cases hs),Nat.zero_le _⟩
 refine HC.mono (evrun_ok (h:=h) (e:=[(n_key,{ t:=key }),(n_value,{ t:=val })]) (nv:=.slice (some ⟨h.size,0,none⟩) 2 2) (vv:=.slice (some ⟨h.size + 1,0,none⟩) 2 2) (vs:=[encN { t:=key },encN { t:=val }]) hM1 hM hok hi (fun p hp=>?_) (by simpa using hn) (T.kp K) K hgn
  (.row (l:=[.string n_key,.string n_value]) (x:=[]) ((get_push_ne (by simp)).trans (get_push_eq rfl)) (.inl rfl) rfl (by simp) (by simp)) (.row (l:=[encN { t:=key },encN { t:=val }]) (x:=[]) (get_push_eq (by simp)) (.inl rfl) rfl (by simp) (by simp)) (.cons (VR.of rfl) (.cons (VR.of rfl) .nil)) (fun k hk=>?_) (fun k hk=>?_) (fun k hk hk'=>?_)) fun r h2 hp=>?_
 ·simp at hp
  rcases hp with rfl | rfl
  ·exact nok _ hk
  ·exact nok _ hv
 ·cases hk;simp <;> omega
 ·cases hk;simp <;> omega
 ·simp [blkOf] at hk hk';omega
 ·obtain ⟨ov,rfl,rest⟩:=hp
  simp only [resK_ret]
  exact ⟨ov,rfl,rest⟩
theorem evreduce_ok {M:Nat} (hM1:4096 ≤ M) (hM:M ≤ 4611686018427387904) {h:AH} {p:Lang.Prog} (hok:okB p.reduce=true) (hi:M < 4294967281 ∨ oneB p.reduce=true) (hn:2 + needB p.reduce ≤ 999999) (T:Tab h) {q:Nat} {fz:Nat × Nat} {so:Option Nat} (gq:h.get q=some (.cells (celP p).toArray 66 fz,so)) {key:ByteArray} (hk:key.size ≤ M)
  {l:List ByteArray} {sv:Value} (hl:Sl sv (strL l)) (hlM:∀ s ∈ l,s.size ≤ M) (hll:l.length ≤ 1099511627776) :
  HC Tryz.prog 13 [.pointer (some ⟨q,0,none⟩),.string key,sv].toArray h (OutP h (reduceV itoaB p key l)):=by
 refine X13_ok ?_
 unfold X13
 have p0:(celP p).toArray[2]?=some (slV (encSs p.reduce)):=rfl
 generalize (celP p).toArray=cc at gq p0
 have hs1:=slOne hl
 have hs2:sv.cells = #[sv]:=by
  clear hs1
  generalize strL l=w at hl
  cases hl <;> rfl
 have hs3:sv.cells.size=1:=by rw [hs2];rfl
 simp (disch:=(first | exact dz | fail)) only [gq,p0,hs1,hs2,SXB,SX,reduceIte,Int.reduceLT,Int.reduceLE,Int.reduceToNat,Int.reduceBEq,Int.reduceBNe,Nat.reduceAdd,Nat.reduceMul,Nat.reduceSub,Nat.reduceLeDiff]
 have hgn:=T.size
 have K:Kp h.size h ((h.push (.cells #[.string n_key,.string n_values] 9 (0,0)) none).push (.cells #[.int .i64 0,.string key,.slice none 0 0,.int .i64 0,.string ⟨#[]⟩,sv] 68 (0,0)) none):=by (repeat (first | exact Kp.refl _ _ | assumption | refine Kp.push ?_ _ _ (by first | omega | (simp only [sz_push,sz_put];omega)) | refine Kp.put ?_ _ _ (by first | omega | (simp only [sz_push,sz_put];omega))))
 have nok:∀ t:ByteArray,t.size ≤ M→VOK M { t:=t }:=fun t ht=>⟨by show NumOK 0;unfold NumOK;omega,ht,(fun s hs=>by cases hs),Nat.zero_le _⟩
 refine HC.mono (evrun_ok (h:=h) (e:=[(n_key,{ t:=key }),(n_values,{ l:=l })]) (nv:=.slice (some ⟨h.size,0,none⟩) 2 2) (vv:=.slice (some ⟨h.size + 1,0,none⟩) 2 2) (vs:=[encN { t:=key },.agg #[.int .i64 0,.string ⟨#[]⟩,sv]]) hM1 hM hok hi (fun p hp=>?_) (by simpa using hn) (T.kp K) K hgn
  (.row (l:=[.string n_key,.string n_values]) (x:=[]) ((get_push_ne (by simp)).trans (get_push_eq rfl)) (.inl rfl) rfl (by simp) (by simp)) (.row (l:=[encN { t:=key },.agg #[.int .i64 0,.string ⟨#[]⟩,sv]]) (x:=[]) (get_push_eq (by simp)) (.inl rfl) rfl (by simp) (by simp)) (.cons (VR.of rfl) (.cons ⟨sv,hl,rfl⟩ .nil)) (fun k hk=>?_) (fun k hk=>?_) (fun k hk hk'=>?_)) fun r h2 hp=>?_
 ·simp at hp
  rcases hp with rfl | rfl
  ·exact nok _ hk
  ·exact ⟨by show NumOK 0;unfold NumOK;omega,Nat.zero_le _,hlM,hll⟩
 ·cases hk;simp <;> omega
 ·cases hk;simp <;> omega
 ·simp [blkOf] at hk hk';omega
 ·obtain ⟨ov,rfl,rest⟩:=hp
  simp only [resK_ret]
  exact ⟨ov,rfl,rest⟩
end Go.Proofs.YtibigfkeaemanaaGreatDoor.L
end
