import Derived.Test.YtibigfkeaemanaaGreatDoorZ19
import Derived.Test.YtibigfkeaemanaaGreatDoorZ21
import Derived.Test.YtibigfkeaemanaaGreatDoorZ30
import Derived.Test.YtibigfkeaemanaaGreatDoorZ34
set_option linter.unusedVariables false
set_option linter.unusedSimpArgs false
section
namespace Go.Proofs.YtibigfkeaemanaaGreatDoor.L
open Go.Ab Go.Lang Go.Proofs.YtibigfkeaemanaaGreatDoor.X
set_option maxRecDepth 100000
theorem stmt_step {M:Nat} (hM1:4096 ≤ M) (hM:M ≤ 4611686018427387904) {ke:Nat} {op name:ByteArray} {a b:Lang.Expr} {body els:List Lang.Stmt} (hok:okS (.mk op name a b body els)=true) (hi:M < 4294967281 ∨ oneS (.mk op name a b body els)=true)
  (HB:BlockP M ke body) (HE:BlockP M ke els):StmtP M ke (.mk op name a b body els):=by
 intro h t e o S he hn T L
 simp only [okS,Bool.and_eq_true] at hok
 obtain ⟨⟨⟨ho1,ho2⟩,ho3⟩,ho4⟩:=hok
 have hlt:=S.lt
 unfold needS at hn
 refine X50_ok ?_
 unfold X50
 have ec:(encS (.mk op name a b body els)).cells=(celS (.mk op name a b body els)).toArray:=encS_cells _
 simp only [new1,new2,ec,cells_pointer]
 obtain ⟨h1,hh⟩:∃ h1,h1=(h.push (.cells #[.pointer (some ⟨ke,0,none⟩)] 74 (0,0)) none).push (.cells (celS (.mk op name a b body els)).toArray 104 (0,0)) none:=⟨_,rfl⟩
 rw [← hh]
 have g2:h1.get h.size=some (.cells #[.pointer (some ⟨ke,0,none⟩)] 74 (0,0),none):=by rw [hh,get_push_ne (by simp)];exact get_push_eq rfl
 have g3:h1.get (h.push (.cells #[.pointer (some ⟨ke,0,none⟩)] 74 (0,0)) none).size=some (.cells (celS (.mk op name a b body els)).toArray 104 (0,0),none):=by rw [hh];exact get_push_eq rfl
 have K:Kp h.size h h1:=by rw [hh];(repeat (first | exact Kp.refl _ _ | assumption | refine Kp.push ?_ _ _ (by first | omega | (simp only [sz_push,sz_put];omega)) | refine Kp.put ?_ _ _ (by first | omega | (simp only [sz_push,sz_put];omega))))
 have hs1:h1.size=h.size + 2:=by rw [hh];simp
 rw [sz_push] at g3 ⊢
 clear hh
 refine bq_of (x:=.pointer (some ⟨ke,0,none⟩)) (by rw [ld1_ptr,g2];rfl) ?_
 refine bq_of (x:=.pointer (some ⟨h.size + 1,2,none⟩)) rfl ?_
 refine bq_of (ldN_S2 g3) ?_
 have hlen:e.length ≤ 1099511627776:=by omega
 refine HC.mono (vexpr_ok hM1 hM hlen he a ho1 h1 (S.kp K) (T.kp K)) fun rr h2 hp=>?_
 obtain ⟨rfl,v,rfl,hv⟩:=hp
 have vok:=expr_vok hM1 he a ho1
 simp only [resK_ret]
 refine bq_of (stN_full (get_push_eq rfl) rfl hv.size hv.ones) ?_
 obtain ⟨sv,hsv,rfl⟩:=hv
 generalize hx:exprV itoaB e a=x at hsv vok ⊢
 obtain ⟨hB,hh⟩:∃ hB,hB=(h2.push (.cells #[.int .i64 0,.string ⟨#[]⟩,.slice none 0 0] 68 (0,0)) none).put h2.size (some (.cells (Value.agg #[.int .i64 x.n,.string x.t,sv]).cells 68 (0,0),none)):=⟨_,rfl⟩
 rw [← hh]
 have hs2:h2.size=h.size + 1 + 1:=by omega
 have X:StB h hB ke (.mk op name a b body els) x sv:=by
  refine ⟨?_,?_,?_,?_,?_,hsv⟩
  ·rw [hh];(repeat (first | exact Kp.refl _ _ | assumption | refine Kp.push ?_ _ _ (by first | omega | (simp only [sz_push,sz_put];omega)) | refine Kp.put ?_ _ _ (by first | omega | (simp only [sz_push,sz_put];omega))))
  ·rw [hh];simp;omega
  ·rw [hh,get_put_ne (by omega),get_push_ne (by omega)];exact g2
  ·rw [hh,get_put_ne (by omega),get_push_ne (by omega)];exact g3
  ·rw [hh,hs2,get_put_eq rfl];rfl
 rw [hs2]
 clear hh g2 g3 K hs1 hs2 h2
 have SB:=S.kp X.K
 have TB:=T.kp X.K
 have hsz:=X.size
 have g2:=X.g2
 have g3:=X.g3
 have g4:=X.g4
 have hrow:=SB.row
 have nhas:∀ k,h.size ≤ k→¬ t.has k:=fun k hk hh=>by have:=S.lts k hh;omega
 have hsone:=slOne hsv
 generalize hq0:BP ke t (stmtV itoaB (.mk op name a b body els) e o).1 h (· = (stmtV itoaB (.mk op name a b body els) e o).2)=Q
 have hq:∀ hC t',EnvS hC ke t' (stmtV itoaB (.mk op name a b body els) e o).1 (stmtV itoaB (.mk op name a b body els) e o).2→AdvE ke t hB hC→Mv hB t t'→Q (.ret (.tuple #[])) hC:=fun hC t' S' A' M'=>by
  rw [← hq0]
  exact ⟨rfl,t',_,S',(AdvE.of_kp X.K).trans A' (.refl _ _),M'.less X.K.size,rfl⟩
 clear hq0
 unfold stmtV at hq
 simp only [hx] at hq
 have c0:=celS_0 (op:=op) (x:=name) (a:=a) (b:=b) (body:=body) (els:=els)
 have c1:=celS_1 (op:=op) (x:=name) (a:=a) (b:=b) (body:=body) (els:=els)
 have c12:=celS_12 (op:=op) (x:=name) (a:=a) (b:=b) (body:=body) (els:=els)
 have c13:=celS_13 (op:=op) (x:=name) (a:=a) (b:=b) (body:=body) (els:=els)
 have q7:=ldN_S7 g3
 generalize (celS (.mk op name a b body els)).toArray=cc at g3 c0 c1 c12 c13
 generalize hl5:ldN 5=l5 at q7
 simp (disch:=first|exact dz|fail) only [g3,c0,e_o_emit,SXB,SX,simprocAttr]
 cases h_emit:eqT op o_emit with
 | true =>
  simp only [h_emit,if_true] at hq
  have eo:=SB.out.len
  rw [List.length_map] at eo
  by_cases hout:o.length < 1024
  ·have e1:(o.length:Int) < 1024:=by omega
   rw [if_pos hout] at hq
   simp (disch:=first|exact dz|fail) only [g2,hrow,eo,e1,g4,q7,SXB,SX,simprocAttr]
   refine HC.mono (vexpr_ok hM1 hM hlen he b ho2 hB SB TB) fun rr h3 hp=>?_
   obtain ⟨rfl,w,rfl,hw⟩:=hp
   obtain ⟨sw,hsw,rfl⟩:=hw
   simp only [resK_ret]
   simp (disch:=first|exact dz|fail) only [g2,hrow,g4,SXB,SX,simprocAttr]
   have Kp1:Kp h3.size h3 (h3.push (.cells #[.string x.t,.string (exprV itoaB e b).t] 40 (0,0)) none):=by (repeat (first | exact Kp.refl _ _ | assumption | refine Kp.push ?_ _ _ (by first | omega | (simp only [sz_push,sz_put];omega)) | refine Kp.put ?_ _ _ (by first | omega | (simp only [sz_push,sz_put];omega))))
   have gp:=get_push_eq (h:=h3) (o:=.cells #[.string x.t,.string (exprV itoaB e b).t] 40 (0,0)) (s:=none) (j:=h3.size) rfl
   have g2p:=(Kp1.get h.size (by omega)).trans g2
   have z1:=Kp1.size
   generalize h3.push (.cells #[.string x.t,.string (exprV itoaB e b).t] 40 (0,0)) none=h4 at Kp1 gp g2p z1 ⊢
   obtain ⟨n',h5,a1,G5,A5,M5⟩:=(SB.g.kp Kp1).appO (x:=.slice (some ⟨h3.size,0,none⟩) 1 1) (p:=(x.t,(exprV itoaB e b).t)) (Src.one gp rfl rfl) (by omega)
   refine bq_of a1 ?_
   have g25:=(A5.get h.size (by omega) (by omega) (nhas _ (by omega))).trans g2p
   have hrow5:=G5.row
   obtain ⟨y1,y2,y3,rfl⟩:=G5.out.isSl
   simp (disch:=first|exact dz|fail) only [g25,hrow5,SXB,SX,simprocAttr]
   refine hq _ _ (G5.put (r':=⟨t.n,t.v,.slice y1 y2 y3⟩)).s (((AdvE.of_kp Kp1).trans A5 (.refl _ _)).put _) (M5.less z1)
  ·have e1:¬ (o.length:Int) < 1024:=by omega
   rw [if_neg hout] at hq
   simp (disch:=first|exact dz|fail) only [g2,hrow,eo,e1,SXB,SX,simprocAttr]
   exact hq hB t SB (.refl _ _ _) (.refl _ _)
 | false =>
 simp only [h_emit,Bool.false_eq_true,if_false] at hq
 simp (disch:=first|exact dz|fail) only [e_o_let,SXB,SX,simprocAttr]
 cases h_let:eqT op o_let with
 | true =>
  simp only [h_let,if_true] at hq
  have enl:(nmL e).length=e.length:=by unfold nmL;simp
  have wc:(Value.agg #[.int .i64 x.n,.string x.t,sv]).cells = #[.int .i64 x.n,.string x.t,sv]:=rfl
  have hvr:VR (.agg #[.int .i64 x.n,.string x.t,sv]) (name,x).2:=⟨sv,hsv,rfl⟩
  have full:∀ (h1 h3:AH) (n' v':Value),Kp hB.size hB h1→EnvG h3 ke t ⟨n',v',t.o⟩ (nmL e++[.string name]) (e++[(name,x)]) o→AdvE ke t h1 h3→Mv h1 t ⟨n',v',t.o⟩ →
    Q (.ret (.tuple #[])) ((h3.put ke (some (.cells #[n',t.v,t.o] 78 (0,0),none))).put ke (some (.cells #[n',v',t.o] 78 (0,0),none))) :=
   fun h1 h3 n' v' K G A M=>by
    have S4:=(G.put (r':=⟨n',t.v,t.o⟩)).put (r':=⟨n',v',t.o⟩)
    rw [← nmL_snoc e (name,x)] at S4
    exact hq _ _ S4.s ((((AdvE.of_kp K).trans A (.refl _ _)).put _).put _) (M.less K.size)
  simp (disch:=first|exact dz|fail) only [g2,hrow,g3,c1,g4,hsone,SXB,SX,simprocAttr]
  refine ⟨⟨?_,?_⟩,?_⟩
  ·have K1:Kp hB.size hB (hB.push (.cells #[.string name] 9 (0,0)) none):=by (repeat (first | exact Kp.refl _ _ | assumption | refine Kp.push ?_ _ _ (by first | omega | (simp only [sz_push,sz_put];omega)) | refine Kp.put ?_ _ _ (by first | omega | (simp only [sz_push,sz_put];omega))))
   have gn:=get_push_eq (h:=hB) (o:=(.cells #[.string name] 9 (0,0))) (s:=none) (j:=hB.size) rfl
   have z1:(hB.push (.cells #[.string name] 9 (0,0)) none).size=hB.size + 1:=by simp
   generalize hB.push (.cells #[.string name] 9 (0,0)) none=h1 at K1 gn z1 ⊢
   have g21:=(K1.get h.size (by omega)).trans g2
   have g31:=(K1.get (h.size + 1) (by omega)).trans g3
   have g41:=(K1.get (h.size + 1 + 1) (by omega)).trans g4
   obtain ⟨n',h2,a1,G2,A2,M2⟩:=(SB.g.kp K1).appN (x:=.slice (some ⟨hB.size,0,none⟩) 1 1) (Src.one gn rfl rfl) (by rw [enl];omega)
   refine bq_of a1 ?_
   have hr2:=G2.row
   have g22:=(A2.get h.size (by omega) (by omega) (nhas _ (by omega))).trans g21
   have g32:=(A2.get (h.size + 1) (by omega) (by omega) (nhas _ (by omega))).trans g31
   have g42:=(A2.get (h.size + 1 + 1) (by omega) (by omega) (nhas _ (by omega))).trans g41
   have z2:=A2.size
   obtain ⟨x1,x2,x3,rfl⟩:=G2.names.isSl
   simp (disch:=first|exact dz|fail) only [hr2,g22,g32,g42,c1,hsone,SXB,SX,simprocAttr]
   obtain ⟨v',h3,b1,G3,A3,M3⟩:=(G2.kp (h':=h2.push (.cells #[.int .i64 x.n,.string x.t,sv] 68 (0,0)) none) (by (repeat (first | exact Kp.refl _ _ | assumption | refine Kp.push ?_ _ _ (by first | omega | (simp only [sz_push,sz_put];omega)) | refine Kp.put ?_ _ _ (by first | omega | (simp only [sz_push,sz_put];omega)))))).appV (x:=.slice (some ⟨h2.size,0,none⟩) 1 1) (p:=(name,x)) (Src.one (get_push_eq rfl) wc rfl) hvr (by omega)
   refine bq_of b1 ?_
   have hr3:=G3.row
   have g23:=(A3.get h.size (by simp;omega) (by omega) (fun hh=>by rcases M2 _ hh with q | q;exact nhas _ (by omega) q;omega)).trans ((get_push_ne (by omega)).trans g22)
   obtain ⟨y1,y2,y3,rfl⟩:∃ a n c,v' = .slice a n c:=by obtain ⟨vs,B,_⟩:=G3.vals;exact B.isSl
   have g23':=(get_put_ne (h:=h3) (k:=ke) (j:=h.size) (v:=some (.cells #[.slice x1 x2 x3,t.v,t.o] 78 (0,0),none)) (by omega)).trans g23
   simp (disch:=first|exact dz|fail) only [hr3,g23,g23',SXB,SX,simprocAttr]
   exact full h1 h3 _ _ K1 G3 (A2.trans ((AdvE.of_kp (by (repeat (first | exact Kp.refl _ _ | assumption | refine Kp.push ?_ _ _ (by first | omega | (simp only [sz_push,sz_put];omega)) | refine Kp.put ?_ _ _ (by first | omega | (simp only [sz_push,sz_put];omega)))))).trans A3 (.refl _ _)) M2) (M2.trans (M3.less (h0:=h2) (by simp)) A2.size)
  ·have K1:Kp hB.size hB ((hB.push (.cells #[.string name] 9 (0,0)) none).push (.cells #[.int .i64 x.n,.string x.t,sv] 68 (0,0)) none):=by (repeat (first | exact Kp.refl _ _ | assumption | refine Kp.push ?_ _ _ (by first | omega | (simp only [sz_push,sz_put];omega)) | refine Kp.put ?_ _ _ (by first | omega | (simp only [sz_push,sz_put];omega))))
   have gn:=((get_push_ne (h:=hB.push (.cells #[.string name] 9 (0,0)) none) (o:=(.cells #[.int .i64 x.n,.string x.t,sv] 68 (0,0))) (s:=none) (j:=hB.size) (by simp)).trans (get_push_eq rfl))
   have gv:=(get_push_eq (h:=hB.push (.cells #[.string name] 9 (0,0)) none) (o:=(.cells #[.int .i64 x.n,.string x.t,sv] 68 (0,0))) (s:=none) (j:=hB.size + 1) (by simp))
   have z1:((hB.push (.cells #[.string name] 9 (0,0)) none).push (.cells #[.int .i64 x.n,.string x.t,sv] 68 (0,0)) none).size=hB.size + 2:=by simp
   generalize (hB.push (.cells #[.string name] 9 (0,0)) none).push (.cells #[.int .i64 x.n,.string x.t,sv] 68 (0,0)) none=h1 at K1 gn gv z1 ⊢
   have g21:=(K1.get h.size (by omega)).trans g2
   have g31:=(K1.get (h.size + 1) (by omega)).trans g3
   have g41:=(K1.get (h.size + 1 + 1) (by omega)).trans g4
   obtain ⟨n',h2,a1,G2,A2,M2⟩:=(SB.g.kp K1).appN (x:=.slice (some ⟨hB.size,0,none⟩) 1 1) (Src.one gn rfl rfl) (by rw [enl];omega)
   refine bq_of a1 ?_
   have hr2:=G2.row
   have g22:=(A2.get h.size (by omega) (by omega) (nhas _ (by omega))).trans g21
   have g32:=(A2.get (h.size + 1) (by omega) (by omega) (nhas _ (by omega))).trans g31
   have g42:=(A2.get (h.size + 1 + 1) (by omega) (by omega) (nhas _ (by omega))).trans g41
   have z2:=A2.size
   obtain ⟨x1,x2,x3,rfl⟩:=G2.names.isSl
   have gv2:=(A2.get (hB.size + 1) (by omega) (by omega) (nhas _ (by omega))).trans gv
   simp (disch:=first|exact dz|fail) only [hr2,g22,g32,g42,c1,hsone,SXB,SX,simprocAttr]
   obtain ⟨v',h3,b1,G3,A3,M3⟩:=G2.appV (x:=.slice (some ⟨hB.size + 1,0,none⟩) 1 1) (p:=(name,x)) (Src.one gv2 wc rfl) hvr (by omega)
   refine bq_of b1 ?_
   have hr3:=G3.row
   have g23:=(A3.get h.size (by omega) (by omega) (fun hh=>by rcases M2 _ hh with q | q;exact nhas _ (by omega) q;omega)).trans g22
   obtain ⟨y1,y2,y3,rfl⟩:∃ a n c,v' = .slice a n c:=by obtain ⟨vs,B,_⟩:=G3.vals;exact B.isSl
   simp (disch:=first|exact dz|fail) only [hr3,g23,SXB,SX,simprocAttr]
   exact full h1 h3 _ _ K1 G3 (A2.trans A3 M2) (M2.trans M3 A2.size)
  ·have K1:Kp hB.size hB ((hB.push (.cells #[.int .i64 x.n,.string x.t,sv] 68 (0,0)) none).push (.cells #[.string name] 9 (0,0)) none):=by (repeat (first | exact Kp.refl _ _ | assumption | refine Kp.push ?_ _ _ (by first | omega | (simp only [sz_push,sz_put];omega)) | refine Kp.put ?_ _ _ (by first | omega | (simp only [sz_push,sz_put];omega))))
   have gn:=(get_push_eq (h:=hB.push (.cells #[.int .i64 x.n,.string x.t,sv] 68 (0,0)) none) (o:=(.cells #[.string name] 9 (0,0))) (s:=none) (j:=hB.size + 1) (by simp))
   have gv:=((get_push_ne (h:=hB.push (.cells #[.int .i64 x.n,.string x.t,sv] 68 (0,0)) none) (o:=(.cells #[.string name] 9 (0,0))) (s:=none) (j:=hB.size) (by simp)).trans (get_push_eq rfl))
   have z1:((hB.push (.cells #[.int .i64 x.n,.string x.t,sv] 68 (0,0)) none).push (.cells #[.string name] 9 (0,0)) none).size=hB.size + 2:=by simp
   generalize (hB.push (.cells #[.int .i64 x.n,.string x.t,sv] 68 (0,0)) none).push (.cells #[.string name] 9 (0,0)) none=h1 at K1 gn gv z1 ⊢
   have g21:=(K1.get h.size (by omega)).trans g2
   have g31:=(K1.get (h.size + 1) (by omega)).trans g3
   have g41:=(K1.get (h.size + 1 + 1) (by omega)).trans g4
   obtain ⟨n',h2,a1,G2,A2,M2⟩:=(SB.g.kp K1).appN (x:=.slice (some ⟨hB.size + 1,0,none⟩) 1 1) (Src.one gn rfl rfl) (by rw [enl];omega)
   refine bq_of a1 ?_
   have hr2:=G2.row
   have g22:=(A2.get h.size (by omega) (by omega) (nhas _ (by omega))).trans g21
   have g32:=(A2.get (h.size + 1) (by omega) (by omega) (nhas _ (by omega))).trans g31
   have g42:=(A2.get (h.size + 1 + 1) (by omega) (by omega) (nhas _ (by omega))).trans g41
   have z2:=A2.size
   obtain ⟨x1,x2,x3,rfl⟩:=G2.names.isSl
   have gv2:=(A2.get (hB.size) (by omega) (by omega) (nhas _ (by omega))).trans gv
   simp (disch:=first|exact dz|fail) only [hr2,g22,g32,g42,c1,hsone,SXB,SX,simprocAttr]
   obtain ⟨v',h3,b1,G3,A3,M3⟩:=G2.appV (x:=.slice (some ⟨hB.size,0,none⟩) 1 1) (p:=(name,x)) (Src.one gv2 wc rfl) hvr (by omega)
   refine bq_of b1 ?_
   have hr3:=G3.row
   have g23:=(A3.get h.size (by omega) (by omega) (fun hh=>by rcases M2 _ hh with q | q;exact nhas _ (by omega) q;omega)).trans g22
   obtain ⟨y1,y2,y3,rfl⟩:∃ a n c,v' = .slice a n c:=by obtain ⟨vs,B,_⟩:=G3.vals;exact B.isSl
   simp (disch:=first|exact dz|fail) only [hr3,g23,SXB,SX,simprocAttr]
   exact full h1 h3 _ _ K1 G3 (A2.trans A3 M2) (M2.trans M3 A2.size)
 | false =>
 simp only [h_let,Bool.false_eq_true,if_false] at hq
 simp (disch:=first|exact dz|fail) only [e_o_if,SXB,SX,simprocAttr]
 cases h_if:eqT op o_if with
 | true =>
  simp only [h_if,if_true] at hq
  cases hne:(x.n != 0) with
  | true =>
   simp only [hne,if_true] at hq
   simp (disch:=first|exact dz|fail) only [g4,hne,g2,g3,c12,SXB,SX,simprocAttr]
   refine HC.mono (HB hB t e o SB he (by omega) TB L) fun rr h3 hp=>?_
   obtain ⟨rfl,t3,o3,S3,A3,M3,rfl⟩:=hp
   simp only [resK_ret]
   exact hq h3 t3 S3 A3 M3
  | false =>
   simp only [hne,Bool.false_eq_true,if_false] at hq
   simp (disch:=first|exact dz|fail) only [g4,hne,g2,g3,c13,SXB,SX,simprocAttr]
   refine HC.mono (HE hB t e o SB he (by omega) TB L) fun rr h3 hp=>?_
   obtain ⟨rfl,t3,o3,S3,A3,M3,rfl⟩:=hp
   simp only [resK_ret]
   exact hq h3 t3 S3 A3 M3
 | false =>
 simp only [h_if,Bool.false_eq_true,if_false] at hq
 simp (disch:=first|exact dz|fail) only [e_o_each,SXB,SX,simprocAttr]
 cases h_each:eqT op o_each with
 | true =>
  simp only [h_each,if_true] at hq
  simp (disch:=first|exact dz|fail) only [g2,g3,q7,SXB,SX,simprocAttr]
  refine HC.mono (vexpr_ok hM1 hM hlen he b ho2 hB SB TB) fun rr h3 hp=>?_
  obtain ⟨rfl,w,rfl,hw⟩:=hp
  obtain ⟨sw,hsw,rfl⟩:=hw
  have vokb:=expr_vok hM1 he b ho2
  have hib:M < 4294967281 ∨ (exprV itoaB e b).t.size=1:=by
   rcases hi with hi | hi
   ·exact .inl hi
   ·refine .inr (byOne_size _ _ b ?_)
    simp only [oneS,h_each,Bool.and_eq_true,Bool.not_true,Bool.false_or] at hi
    exact hi.1.1
  generalize exprV itoaB e b=y at hq vokb hib hsw ⊢
  simp only [resK_ret]
  refine bq_of (x:=.string y.t) rfl ?_
  simp (disch:=first|exact dz|fail) only [SXB,SX,simprocAttr]
  have KC:Kp h3.size h3 ((h3.push (.cells #[.string ⟨#[]⟩] 9 (0,0)) none).put h3.size (some (.cells #[.string y.t] 9 (0,0),none))):=by (repeat (first | exact Kp.refl _ _ | assumption | refine Kp.push ?_ _ _ (by first | omega | (simp only [sz_push,sz_put];omega)) | refine Kp.put ?_ _ _ (by first | omega | (simp only [sz_push,sz_put];omega))))
  have g5:=get_put_eq (h:=h3.push (.cells #[.string ⟨#[]⟩] 9 (0,0)) none) (k:=h3.size) (j:=h3.size) (v:=some (.cells #[.string y.t] 9 (0,0),none)) rfl
  have zC:((h3.push (.cells #[.string ⟨#[]⟩] 9 (0,0)) none).put h3.size (some (.cells #[.string y.t] 9 (0,0),none))).size=h3.size + 1:=by simp
  generalize (h3.push (.cells #[.string ⟨#[]⟩] 9 (0,0)) none).put h3.size (some (.cells #[.string y.t] 9 (0,0),none))=hC at KC g5 zC ⊢
  exact eveach_ok (X1:=fun h i=>if i=1 then Q (.ret (.tuple #[])) h else if i=0 then Q (.ret (.tuple #[])) h else False) (M:=M) (s:=x.t) (b:=y.t) hM1 hM (SB.kp KC) vok.t vokb.t hib he (by omega) (TB.kp KC) L HB c1 c12 ((KC.get _ (by omega)).trans g2) ((KC.get _ (by omega)).trans g3) ((KC.get _ (by omega)).trans g4) rfl g5 ⟨by omega,nhas _ (by omega),by omega⟩ ⟨by omega,nhas _ (by omega),by omega⟩ (by omega) (by omega)
   fun hD t' S' A' M'=>hq hD t' S' ((AdvE.of_kp KC).trans A' (.refl _ _)) (M'.less (by omega))
 | false =>
 simp only [h_each,Bool.false_eq_true,if_false] at hq
 simp (disch:=first|exact dz|fail) only [e_o_for,SXB,SX,simprocAttr]
 cases h_for:eqT op o_for with
 | true =>
  simp only [h_for,if_true] at hq
  have esl:=hsv.len
  have esl2:(strL x.l).length=x.l.length:=by unfold strL;simp
  rw [esl2] at esl
  have emin:min ((x.l.length:Nat):Int) 256=((min x.l.length 256:Nat):Int):=by omega
  obtain ⟨s',hs1,hs2⟩:=slHi (h:=hB) hsv (k:=min x.l.length 256) (Nat.min_le_left _ _)
  have etk:x.l.take (min x.l.length 256)=x.l.take 256:=by
   by_cases hl:x.l.length ≤ 256
   ·rw [Nat.min_eq_left hl,List.take_of_length_le (Nat.le_refl _),List.take_of_length_le hl]
   ·rw [Nat.min_eq_right (by omega)]
  rw [etk] at hs2
  have es':=hs2.len
  have es2:(strL (x.l.take 256)).length=(x.l.take 256).length:=by unfold strL;simp
  rw [es2] at es'
  simp (disch:=first|exact dz|fail) only [g4,esl,min_ite,emin,hs1,es',SXB,SX,simprocAttr]
  refine for_loop hM1 hs2 (fun s hs=>vok.l s (List.mem_of_mem_take hs)) (by rw [List.length_take];omega) he (by omega) TB L HB c1 c12 g2 g3 ⟨by omega,nhas _ (by omega),by omega⟩ ⟨by omega,nhas _ (by omega),by omega⟩ hq (x.l.take 256) 0 hB t o rfl (Nat.zero_le _) SB (.refl _ _ _) (.refl _ _) rfl
 | false =>
 simp only [h_for,Bool.false_eq_true,if_false] at hq
 simp (disch:=first|exact dz|fail) only [SXB,SX,simprocAttr]
 exact hq hB t SB (.refl _ _ _) (.refl _ _)
end Go.Proofs.YtibigfkeaemanaaGreatDoor.L
end
section
namespace Go.Proofs.YtibigfkeaemanaaGreatDoor.L
open Go.Ab Go.Lang Go.Proofs.YtibigfkeaemanaaGreatDoor.X
set_option maxRecDepth 100000
mutual
theorem stmt_all {M:Nat} (hM1:4096 ≤ M) (hM:M ≤ 4611686018427387904) {ke:Nat}:∀ s:Lang.Stmt,okS s=true→(M < 4294967281 ∨ oneS s=true)→StmtP M ke s
 | .mk op name a b body els=>fun hok hi=>by
  have ho:=hok
  simp only [okS,Bool.and_eq_true] at ho
  have hib:M < 4294967281 ∨ (oneB body=true∧oneB els=true):=by
   rcases hi with h | h
   ·exact .inl h
   ·simp only [oneS,Bool.and_eq_true] at h
    exact .inr ⟨h.1.2,h.2⟩
  exact stmt_step hM1 hM hok hi (evblock_ok hM1 ho.1.2 (stmts_all hM1 hM body ho.1.2 (hib.imp id fun h=>h.1))) (evblock_ok hM1 ho.2 (stmts_all hM1 hM els ho.2 (hib.imp id fun h=>h.2)))
theorem stmts_all {M:Nat} (hM1:4096 ≤ M) (hM:M ≤ 4611686018427387904) {ke:Nat}:∀ l:List Lang.Stmt,okB l=true→(M < 4294967281 ∨ oneB l=true)→∀ s ∈ l,StmtP M ke s
 | []=>fun _ _ s hs=>by cases hs
 | y::l=>fun hok hi s hs=>by
  simp only [okB,Bool.and_eq_true] at hok
  have hib:M < 4294967281 ∨ (oneS y=true∧oneB l=true):=by
   rcases hi with h | h
   ·exact .inl h
   ·simp only [oneB,Bool.and_eq_true] at h
    exact .inr h
  by_cases hxy:s=y
  ·rw [hxy]
   exact stmt_all hM1 hM y hok.1 (hib.imp id fun h=>h.1)
  ·have hx':s ∈ l:=by
    cases hs with
    | head=>exact absurd rfl hxy
    | tail _ h=>exact h
   exact stmts_all hM1 hM l hok.2 (hib.imp id fun h=>h.2) s hx'
end
theorem block_all {M:Nat} (hM1:4096 ≤ M) (hM:M ≤ 4611686018427387904) {ke:Nat} {l:List Lang.Stmt} (hok:okB l=true) (hi:M < 4294967281 ∨ oneB l=true):BlockP M ke l:=evblock_ok hM1 hok (stmts_all hM1 hM l hok hi)
def OutP (h:AH) (out:Lang.Out) (r:Res) (h':AH):Prop:=∃ ov,r=.ret ov∧Kp h.size h h'∧Gs 40 2 h' ov (out.map encPair)∧∀ k,blkOf ov=some k→h.size ≤ k∧k < h'.size
theorem evrun_ok {M:Nat} (hM1:4096 ≤ M) (hM:M ≤ 4611686018427387904) {h h0:AH} {l:List Lang.Stmt} (hok:okB l=true) (hi:M < 4294967281 ∨ oneB l=true) {e:Env} (he:∀ p ∈ e,VOK M p.2) (hn:e.length + needB l ≤ 999999) (T:Tab h0) (K:Kp h.size h h0) (hgn:10 ≤ h.size)
  {nv vv:Value} {vs:List Value} (N:Gs 9 1 h0 nv (nmL e)) (B:Gs 68 3 h0 vv vs) (R:VRs vs e) (hk1:∀ k,blkOf nv=some k→h.size ≤ k∧k < h0.size) (hk2:∀ k,blkOf vv=some k→h.size ≤ k∧k < h0.size) (d:∀ k,blkOf nv=some k→blkOf vv ≠ some k) :
  HC Tryz.prog 18 [slV (encSs l),nv,vv].toArray h0 (OutP h (blockV itoaB l e [])):=by
 refine X18_ok ?_
 unfold X18
 have hz:=K.size
 obtain ⟨n1,n2,n3,rfl⟩:=N.isSl
 obtain ⟨v1,v2,v3,rfl⟩:=B.isSl
 have S:EnvS (h0.push (.cells #[.slice n1 n2 n3,.slice v1 v2 v3,.slice none 0 0] 78 (0,0)) none) h0.size ⟨.slice n1 n2 n3,.slice v1 v2 v3,.slice none 0 0⟩ e []:=by
  refine ⟨get_push_eq rfl,N.mono fun k hk=>get_push_ne (by have:=hk1 k hk;omega),⟨vs,B.mono fun k hk=>get_push_ne (by have:=hk2 k hk;omega),R⟩,.nil,?_,d,(fun k _ hk=>by cases hk),(fun k _ hk=>by cases hk),(by simp),fun k hk=>?_⟩
  ·rintro (hk | hk | hk)
   ·have:=hk1 _ hk;omega
   ·have:=hk2 _ hk;omega
   ·cases hk
  ·rcases hk with hk | hk | hk
   ·have:=hk1 k hk;simp;omega
   ·have:=hk2 k hk;simp;omega
   ·cases hk
 have T1:=T.kp (h':=h0.push (.cells #[.slice n1 n2 n3,.slice v1 v2 v3,.slice none 0 0] 78 (0,0)) none) (by (repeat (first | exact Kp.refl _ _ | assumption | refine Kp.push ?_ _ _ (by first | omega | (simp only [sz_push,sz_put];omega)) | refine Kp.put ?_ _ _ (by first | omega | (simp only [sz_push,sz_put];omega)))))
 have L:LoE h0.size ⟨.slice n1 n2 n3,.slice v1 v2 v3,.slice none 0 0⟩:=⟨by omega,fun k hk=>by
  rcases hk with hk | hk | hk
  ·have:=hk1 k hk;omega
  ·have:=hk2 k hk;omega
  ·cases hk⟩
 simp (disch:=first|exact dz|fail) only [SXB,SX,simprocAttr]
 refine HC.mono (block_all hM1 hM hok hi _ _ e [] S he hn T1 L) fun r h2 hp=>?_
 obtain ⟨rfl,t2,o2,S2,A2,M2,rfl⟩:=hp
 simp only [resK_ret]
 have hr2:=S2.row
 simp (disch:=first|exact dz|fail) only [hr2,SXB,SX,simprocAttr]
 have z2:=A2.size
 simp only [sz_push] at z2
 refine ⟨_,rfl,⟨by omega,fun k hk=>?_⟩,S2.out,fun k hk=>⟨?_,S2.lts k (.inr (.inr hk))⟩⟩
 ·rw [A2.get k (by simp;omega) (by omega) fun hh=>?_,get_push_ne (by omega)]
  ·exact K.get k hk
  ·rcases hh with hh | hh | hh
   ·have:=hk1 k hh;omega
   ·have:=hk2 k hh;omega
   ·cases hh
 ·rcases M2 k (.inr (.inr hk)) with hh | hh
  ·rcases hh with hh | hh | hh
   ·have:=hk1 k hh;omega
   ·have:=hk2 k hh;omega
   ·cases hh
  ·simp at hh;omega
theorem evmap_ok {M:Nat} (hM1:4096 ≤ M) (hM:M ≤ 4611686018427387904) {h:AH} {p:Lang.Prog} (hok:okB p.map=true) (hi:M < 4294967281 ∨ oneB p.map=true) (hn:2 + needB p.map ≤ 999999) (T:Tab h) {q:Nat} {fz:Nat × Nat} {so:Option Nat} (gq:h.get q=some (.cells (celP p).toArray 66 fz,so)) {key val:ByteArray} (hk:key.size ≤ M) (hv:val.size ≤ M) :
  HC Tryz.prog 8 [.pointer (some ⟨q,0,none⟩),.string key,.string val].toArray h (OutP h (mapV itoaB p key val)):=by
 refine X8_ok ?_
 unfold X8
 have p0:(celP p).toArray[0]?=some (slV (encSs p.map)):=rfl
 generalize (celP p).toArray=cc at gq p0
 simp (disch:=first|exact dz|fail) only [gq,p0,SXB,SX,simprocAttr]
 have hgn:=T.size
 have K:Kp h.size h ((h.push (.cells #[.string n_key,.string n_value] 9 (0,0)) none).push (.cells #[.int .i64 0,.string key,.slice none 0 0,.int .i64 0,.string val,.slice none 0 0] 68 (0,0)) none):=by (repeat (first | exact Kp.refl _ _ | assumption | refine Kp.push ?_ _ _ (by first | omega | (simp only [sz_push,sz_put];omega)) | refine Kp.put ?_ _ _ (by first | omega | (simp only [sz_push,sz_put];omega))))
 have nok:∀ t:ByteArray,t.size ≤ M→VOK M { t:=t }:=fun t ht=>⟨by show NumOK 0;unfold NumOK;omega,ht,(fun s hs=>by cases hs),Nat.zero_le _⟩
 refine HC.mono (evrun_ok (h:=h) (e:=[(n_key,{ t:=key }),(n_value,{ t:=val })]) (nv:=.slice (some ⟨h.size,0,none⟩) 2 2) (vv:=.slice (some ⟨h.size + 1,0,none⟩) 2 2) (vs:=[encN { t:=key },encN { t:=val }]) hM1 hM hok hi (fun p hp=>?_) (by simpa using hn) (T.kp K) K hgn
  (.row (l:=[.string n_key,.string n_value]) (x:=[]) ((get_push_ne (by simp)).trans (get_push_eq rfl)) (.inl rfl) rfl (by simp) (by simp)) (.row (l:=[encN { t:=key },encN { t:=val }]) (x:=[]) (get_push_eq (by simp)) (.inl rfl) rfl (by simp) (by simp)) (.cons (VR.of rfl) (.cons (VR.of rfl) .nil)) (fun k hk=>?_) (fun k hk=>?_) (fun k hk hk'=>?_)) fun r h2 hp=>?_
 ·simp at hp
  rcases hp with rfl | rfl
  ·exact nok _ hk
  ·exact nok _ hv
 ·cases hk;simp <;> omega
 ·cases hk;simp <;> omega
 ·simp [blkOf] at hk hk';omega
 ·obtain ⟨ov,rfl,rest⟩:=hp
  simp only [resK_ret]
  exact ⟨ov,rfl,rest⟩
end Go.Proofs.YtibigfkeaemanaaGreatDoor.L
end
section
namespace Go.Proofs.YtibigfkeaemanaaGreatDoor.L
open Go.Ab Go.Lang Go.Proofs.YtibigfkeaemanaaGreatDoor.X
set_option maxRecDepth 100000
structure Nib (h:AH):Prop where
 tab:∃ (zs:List Int) (e:TypeId) (fz:Nat × Nat) (s:Option Nat),h.get 0=some (.cells (zs.map fun z=>Value.int .u32 z).toArray e fz,s)∧zs.length=16∧∀ z ∈ zs,0 ≤ z∧z < 4294967296
 size:10 ≤ h.size
theorem Nib.kp {h h':AH} (N:Nib h) (K:Kp h.size h h'):Nib h':=by
 obtain ⟨⟨zs,e,fz,s,h1,h2⟩,h3⟩:=N
 exact ⟨⟨zs,e,fz,s,(K.get _ (by omega)).trans h1,h2⟩,Nat.le_trans h3 K.size⟩
def U32 (n:Int):Prop:=0 ≤ n∧n < 4294967296
theorem wrap_u32 (n:Int):IntKind.wrap .u32 n=n % 4294967296:=rfl
theorem u32_wrap (n:Int):U32 (IntKind.wrap .u32 n):=by rw [wrap_u32];unfold U32;omega
theorem bin_xor_u {a b:Int} {x y:Operand} {h:AH}:binV Tryz.prog .xor 72 x y (.int .u32 a) (.int .u32 b) h=some (.int .u32 (IntKind.wrap .u32 (BitVec.ofInt 32 a ^^^ BitVec.ofInt 32 b).toNat)):=by kernel_rfl
theorem bin_and_u {a b:Int} {x y:Operand} {h:AH}:binV Tryz.prog .and 72 x y (.int .u32 a) (.int .u32 b) h=some (.int .u32 (IntKind.wrap .u32 (BitVec.ofInt 32 a &&& BitVec.ofInt 32 b).toNat)):=by kernel_rfl
theorem bin_shr_u {a:Int} {x y:Operand} {h:AH}:binV Tryz.prog .shr 72 x y (.int .u32 a) (.int .u64 4) h=some (.int .u32 (a.fdiv (2 ^ 4))):=by kernel_rfl
theorem un_xor_u {a:Int}:unV Tryz.prog .xor (.int .u32 a)=some (.int .u32 (IntKind.wrap .u32 (BitVec.ofInt 32 IntKind.u32.max ^^^ BitVec.ofInt 32 a).toNat)):=by kernel_rfl
theorem conv_bu {n:Int} {h:AH}:convV Tryz.prog 5 72 (.int .u8 n) h=some (.int .u32 (IntKind.wrap .u32 n),h):=by kernel_rfl
theorem and_15 (a:Int):IntKind.wrap .u32 (BitVec.ofInt 32 a &&& BitVec.ofInt 32 15).toNat=((BitVec.ofInt 32 a &&& BitVec.ofInt 32 15).toNat:Nat)∧(BitVec.ofInt 32 a &&& BitVec.ofInt 32 15).toNat < 16:=by
 have h1:(BitVec.ofInt 32 a &&& BitVec.ofInt 32 15).toNat ≤ 15:=by
  rw [BitVec.toNat_and]
  exact Nat.and_le_right
 refine ⟨?_,by omega⟩
 rw [wrap_u32];omega
theorem nib_at {h:AH} {zs:List Int} {e:TypeId} {fz:Nat × Nat} {s:Option Nat} (hg:h.get 0=some (.cells (zs.map fun z=>Value.int .u32 z).toArray e fz,s)) (hl:zs.length=16) (hz:∀ z ∈ zs,0 ≤ z∧z < 4294967296) {i:Nat} (hi:i < 16) :
  ∃ z,iaA 16 1 (.pointer (some ⟨0,0,none⟩)) (.int .u32 (i:Int))=some (.pointer (some ⟨0,i,none⟩))∧ld1 h (.pointer (some ⟨0,i,none⟩))=some (.int .u32 z):=by
 have hlt:i < zs.length:=by omega
 refine ⟨zs[i],?_,?_⟩
 ·unfold iaA
  simp only
  rw [if_neg (by simp),if_pos ⟨by omega,by omega⟩]
  simp [Addr.add]
  try exact fun h=>h.symm
 ·unfold ld1 opCells
  simp only [hg]
  simp
  rw [if_pos (by omega)]
  simp [hlt]
theorem nib_and {h:AH} {zs:List Int} {e:TypeId} {fz:Nat × Nat} {s:Option Nat} (hg:h.get 0=some (.cells (zs.map fun z=>Value.int .u32 z).toArray e fz,s)) (hl:zs.length=16) (hz:∀ z ∈ zs,0 ≤ z∧z < 4294967296) (a:Int) :
  ∃ p z,iaA 16 1 (.pointer (some ⟨0,0,none⟩)) (.int .u32 (IntKind.wrap .u32 (BitVec.ofInt 32 a &&& BitVec.ofInt 32 15).toNat))=some p∧ld1 h p=some (.int .u32 z):=by
 obtain ⟨h1,h2⟩:=and_15 a
 rw [h1]
 obtain ⟨z,h3,h4⟩:=nib_at hg hl hz h2
 exact ⟨_,z,h3,h4⟩
theorem ext_loop {h:AH} (N:Nib h) {s:ByteArray} (hs:s.size ≤ 4611686018427387904) {Q:RQ} (hq:∀ n,U32 n→Q (.ret (.int .u32 n)) h) :
  ∀ (k i:Nat) (r:Int),i + k=s.size→H34_3 (.string s) (.int .u32 r) (.int .i64 s.size) (.int .i64 i) h Q:=by
 obtain ⟨⟨zs,e0,fz,so,hg,hl,hz⟩,_⟩:=N
 have hn:=nib_and hg hl hz
 intro k
 induction k with
 | zero =>
  intro i r hi
  refine X34_3_ok ?_
  unfold X34_3
  have e:¬ ((i:Int) < s.size):=by omega
  simp (disch:=first|exact dz|fail) only [e,un_xor_u,SXB,SX,simprocAttr]
  exact hq _ (u32_wrap _)
 | succ k ih =>
  intro i r hi
  refine X34_3_ok ?_
  unfold X34_3
  have e:((i:Int) < s.size):=by omega
  have ex:ixS (.string s) (.int .i64 i)=some (.int .u8 s[i]!.toNat):=by
   unfold ixS
   simp only
   rw [if_pos ⟨by omega,by omega⟩]
   simp
  have ew:IntKind.i64.wrap ((i:Int) + 1)=(i + 1:Nat):=(wrap64 (by omega) (by omega)).trans (by omega)
  generalize iaA 16 1 (.pointer (some ⟨0,0,none⟩))=f at hn ⊢
  simp (disch:=first|exact dz|fail) only [e,ex,conv_bu,bin_xor_u,bin_shr_u,bin_and_u,SXB,SX,simprocAttr]
  obtain ⟨p,z,e1,e2⟩:=hn (IntKind.u32.wrap ↑(BitVec.ofInt 32 r ^^^ BitVec.ofInt 32 (IntKind.u32.wrap ↑s[i]!.toNat)).toNat)
  refine bq_of e1 (bq_of e2 ?_)
  simp (disch:=first|exact dz|fail) only [bin_xor_u,bin_shr_u,bin_and_u,SXB,SX,simprocAttr]
  obtain ⟨p2,z2,e3,e4⟩:=hn (IntKind.u32.wrap ↑(BitVec.ofInt 32 ((IntKind.u32.wrap ↑(BitVec.ofInt 32 r ^^^ BitVec.ofInt 32 (IntKind.u32.wrap ↑s[i]!.toNat)).toNat).fdiv (2 ^ 4)) ^^^ BitVec.ofInt 32 z).toNat)
  refine bq_of e3 (bq_of e4 ?_)
  simp (disch:=first|exact dz|fail) only [bin_xor_u,SXB,SX,simprocAttr]
  exact ih (i + 1) _ (by omega)
theorem sum_ok {h:AH} (N:Nib h) {s:ByteArray} (hs:s.size ≤ 4611686018427387904):HC Tryz.prog 21 [.string s].toArray h fun r h'=>(∃ n,U32 n∧r=.ret (.int .u32 n))∧h' = h:=by
 refine X21_ok ?_
 unfold X21
 dsimp only
 have key:HC Tryz.prog 34 [.int .u32 0,.string s].toArray h fun r h'=>(∃ n,U32 n∧r=.ret (.int .u32 n))∧h' = h:=by
  refine X34_ok ?_
  unfold X34
  have hl:lenS (.string s)=some (.int .i64 s.size):=rfl
  simp (disch:=first|exact dz|fail) only [un_xor_u,hl,SXB,SX,simprocAttr]
  exact ext_loop N hs (fun n hn=>⟨⟨n,hn,rfl⟩,rfl⟩) s.size 0 _ (by omega)
 refine key.mono ?_
 rintro r h1 ⟨⟨n,hn,rfl⟩,rfl⟩
 exact ⟨⟨n,hn,rfl⟩,rfl⟩
end Go.Proofs.YtibigfkeaemanaaGreatDoor.L
end
section
namespace Go.Proofs.YtibigfkeaemanaaGreatDoor.L
open Go.Ab Go.Lang Go.Proofs.YtibigfkeaemanaaGreatDoor.X
set_option maxRecDepth 100000
theorem bin_rem_i {a b:Int} {x y:Operand} {h:AH} (hb:b ≠ 0):binV Tryz.prog .rem 3 x y (.int .i64 a) (.int .i64 b) h=some (.int .i64 (a.tmod b)):=by
 cases b with
 | ofNat n=>cases n with
  | zero=>exact absurd rfl hb
  | succ n=>kernel_rfl
 | negSucc n=>kernel_rfl
theorem conv_ui {n:Int} {h:AH}:convV Tryz.prog 72 3 (.int .u32 n) h=some (.int .i64 (IntKind.wrap .i64 n),h):=by kernel_rfl
def n_parts:ByteArray:=⟨#[112,97,114,116,115]⟩
def PartP (h:AH) (parts:Int) (r:Res) (h':AH):Prop:=Kp h.size h h'∧∃ n:Int,r=.ret (.int .i64 n)∧0 ≤ n∧n < parts
theorem part_end {h h1:AH} {n parts:Int} (K:Kp h.size h h1) (hp:1 ≤ parts) (hp2:parts ≤ 1099511627776):K11_7 (.int .i64 parts) (.int .i64 n) h1 (PartP h parts):=by
 refine X11_7_ok ?_
 unfold X11_7
 have e0:parts ≠ 0:=by omega
 have h1':(n.tmod parts).natAbs < parts.natAbs:=by
  rw [Int.natAbs_tmod];exact Nat.mod_lt _ (by omega)
 simp (disch:=first|exact dz|fail) only [bin_rem_i e0,SXB,SX,simprocAttr]
 generalize n.tmod parts=m at h1' ⊢
 by_cases hm:m < 0
 ·have ew:IntKind.i64.wrap (m + parts)=m + parts:=wrap64 (by omega) (by omega)
  simp (disch:=first|exact dz|fail) only [hm,ew,SXB,SX,simprocAttr]
  refine X11_10_ok ?_
  unfold X11_10
  exact ⟨K,_,rfl,by omega,by omega⟩
 ·simp (disch:=first|exact dz|fail) only [hm,SXB,SX,simprocAttr]
  refine X11_10_ok ?_
  unfold X11_10
  exact ⟨K,_,rfl,by omega,by omega⟩
theorem part_ok {M:Nat} (hM1:4096 ≤ M) (hM:M ≤ 4611686018427387904) {h:AH} (N:Nib h) (T:Tab h) {p:Lang.Prog} (hok:okE p.part=true) {q:Nat} {fz:Nat × Nat} {so:Option Nat} (gq:h.get q=some (.cells (celP p).toArray 66 fz,so)) {key:ByteArray} (hk:key.size ≤ M) {parts:Int} (hq:q < h.size) (hp:1 ≤ parts) (hp2:parts ≤ 1099511627776) :
  HC Tryz.prog 11 [.pointer (some ⟨q,0,none⟩),.string key,.int .i64 parts].toArray h (PartP h parts):=by
 refine X11_ok ?_
 unfold X11
 have e1:¬ parts < 1:=by omega
 simp (disch:=first|exact dz|fail) only [e1,SXB,SX,simprocAttr]
 refine (sum_ok N (by omega)).mono ?_
 rintro r h1 ⟨⟨n,hn,rfl⟩,rfl⟩
 have ew:IntKind.i64.wrap n=n:=by unfold U32 at hn;exact wrap64 (by omega) (by omega)
 have p4:(celP p).toArray[4]?=some (.bool p.parts):=rfl
 have p5:(celP p).toArray.extract 5 10=(encE p.part).cells:=by
  rw [encE_cells]
  have h5:(celE p.part).length=5:=celE_len _
  show ([slV (encSs p.map),slV (encSs p.combine),slV (encSs p.reduce),.bool p.combines,.bool p.parts]++celE p.part).toArray.extract 5 10=_
  rw [List.extract_toArray]
  show (List.drop 5 (([slV (encSs p.map),slV (encSs p.combine),slV (encSs p.reduce),.bool p.combines,.bool p.parts]++celE p.part)) |>.take 5).toArray=_
  rw [List.drop_left' (by rfl),List.take_of_length_le (by omega)]
 have p10:(celP p).toArray.size=10:=by rw [List.size_toArray];exact celP_len p
 generalize (celP p).toArray=cc at gq p4 p5 p10
 simp (disch:=first|exact dz|fail) only [conv_ui,ew,gq,p4,SXB,SX,simprocAttr]
 cases hpp:p.parts with
 | false =>
  simp (disch:=first|exact dz|fail) only [SXB,SX,simprocAttr]
  exact part_end (.refl _ _) hp hp2
 | true =>
  simp (disch:=first|exact dz|fail) only [SXB,SX,simprocAttr]
  refine HC.exact (bound_ok _) ?_
  simp (disch:=first|exact dz|fail) only [SXB,SX,simprocAttr]
  generalize hA:(Obj.cells #[.string ⟨#[107,101,121]⟩,.string ⟨#[112,97,114,116,115]⟩] 9 (0,0))=A
  generalize hB:(Obj.cells #[.int .i64 0,.string key,.slice none 0 0,.int .i64 (boundV parts),.string ⟨#[]⟩,.slice none 0 0] 68 (0,0))=B
  generalize hC:(Obj.cells #[.slice (some ⟨h1.size,0,none⟩) 2 2,.slice (some ⟨h1.size + 1,0,none⟩) 2 2,.slice none 0 0] 78 (0,0))=C
  refine bq_of (x:=encE p.part) ?_ ?_
  ·rw [gq]
   show (if 10 ≤ cc.size then some (Value.agg (cc.extract 5 10)) else none)=_
   rw [if_pos (by omega),p5,encE_cells,encE_eq]
  have nok:∀ t:ByteArray,t.size ≤ M→VOK M { t:=t }:=fun t ht=>⟨by show NumOK 0;unfold NumOK;omega,ht,(fun s hs=>by cases hs),Nat.zero_le _⟩
  have he:∀ p ∈ ([(n_key,{ t:=key }),(n_parts,{ n:=boundV parts })]:Env),VOK M p.2:=fun p hp=>by
   simp at hp
   rcases hp with rfl | rfl
   ·exact nok _ hk
   ·exact .num hM1 (num_bound _)
  have hgn:=T.size
  have K:Kp h1.size h1 (((h1.push A none).push B none).push C none):=by (repeat (first | exact Kp.refl _ _ | assumption | refine Kp.push ?_ _ _ (by first | omega | (simp only [sz_push,sz_put];omega)) | refine Kp.put ?_ _ _ (by first | omega | (simp only [sz_push,sz_put];omega))))
  have S:EnvS (((h1.push A none).push B none).push C none) (h1.size + 1 + 1) ⟨.slice (some ⟨h1.size,0,none⟩) 2 2,.slice (some ⟨h1.size + 1,0,none⟩) 2 2,.slice none 0 0⟩ [(n_key,{ t:=key }),(n_parts,{ n:=boundV parts })] []:=by
   refine ⟨by rw [← hC];exact get_push_eq (by simp),.row (l:=[.string n_key,.string n_parts]) (x:=[]) (by rw [get_push_ne (by simp <;> omega),get_push_ne (by simp)];exact (get_push_eq rfl).trans (by rw [← hA];rfl)) (.inl rfl) rfl (by simp) (by simp),⟨[encN { t:=key },encN { n:=boundV parts }],.row (l:=[encN { t:=key },encN { n:=boundV parts }]) (x:=[]) (by rw [get_push_ne (by simp)];exact (get_push_eq (by simp)).trans (by rw [← hB];rfl)) (.inl rfl) rfl (by simp) (by simp),.cons (VR.of rfl) (.cons (VR.of rfl) .nil)⟩,.nil,?_,?_,(fun k _ hk=>by cases hk),(fun k _ hk=>by cases hk),(by simp),?_⟩
   ·rintro (hk | hk | hk)
    ·simp [blkOf] at hk;omega
    ·simp [blkOf] at hk
    ·cases hk
   ·intro k hk hk';simp [blkOf] at hk hk';omega
   ·rintro k (hk | hk | hk)
    ·cases hk;simp;omega
    ·cases hk;simp
    ·cases hk
  refine (vexpr_ok hM1 hM (by simp) he p.part hok _ S (T.kp K)).mono ?_
  rintro r h4 ⟨rfl,v,rfl,s,hs,rfl⟩
  simp (disch:=first|exact dz|fail) only [SXB,SX,simprocAttr]
  exact part_end K hp hp2
end Go.Proofs.YtibigfkeaemanaaGreatDoor.L
end
section
namespace Go.Proofs.YtibigfkeaemanaaGreatDoor.L
open Go.Ab Go.Lang Go.Proofs.YtibigfkeaemanaaGreatDoor.X
set_option maxRecDepth 100000
structure SC (h h1:AH) (c:Array Value) (toks:List Tok) (tv:Value):Prop where
 err:h1.get h.size=some (.cells #[.int .i64 0,.int .i64 0] 25 (0,0),none)
 tok:h1.get (h.size + 1)=some (.cells c 55 (0,0),none)
 csz:c.size=3
 out:Hld 55 3 h1 (h.size + 2) tv (toks.map encT)
 lt:∀ k,blkOf tv=some k→k < h1.size
 size:h.size + 2 ≤ h1.size
 K:Kp h.size h h1
theorem SC.keep {h h1 h2:AH} {c:Array Value} {toks:List Tok} {tv:Value} (x:SC h h1 c toks tv) (K:Kp h1.size h1 h2):SC h h2 c toks tv:=by
 have hs:=x.size
 exact ⟨(K.get _ (by omega)).trans x.err,(K.get _ (by omega)).trans x.tok,x.csz,x.out.mono fun k hk=>K.get k (x.lt k hk),fun k hk=>Nat.lt_of_lt_of_le (x.lt k hk) K.size,Nat.le_trans hs K.size,⟨Nat.le_trans x.K.size K.size,fun k hk=>(K.get k (by omega)).trans (x.K.get k hk)⟩⟩
theorem SC.put {h h1:AH} {c c':Array Value} {toks:List Tok} {tv:Value} (x:SC h h1 c toks tv) (hc:c'.size=3):SC h (h1.put (h.size + 1) (some (.cells c' 55 (0,0),none))) c' toks tv:=by
 have hs:=x.size
 refine ⟨by rw [get_put_ne (by omega)];exact x.err,get_put_eq rfl,hc,x.out.mono fun k hk=>get_put_ne (by have:=x.out.key k hk;omega),fun k hk=>by rw [sz_put];exact x.lt k hk,by rw [sz_put];exact hs,?_⟩
 have K:=x.K
 (repeat (first | exact Kp.refl _ _ | assumption | refine Kp.push ?_ _ _ (by first | omega | (simp only [sz_push,sz_put];omega)) | refine Kp.put ?_ _ _ (by first | omega | (simp only [sz_push,sz_put];omega))))
def SPf (Q:RQ) (h:AH) (toks:List Tok) (rs:Except Nat (List Tok)):Prop:=match rs with
 | .ok l=>∀ h' v,Kp h.size h h'→Hld 55 3 h' (h.size + 2) v ((toks++l).map encT)→(∀ k,blkOf v=some k→k < h'.size)→Q (.ret (.tuple #[v,.agg #[.int .i64 0,.int .i64 0]])) h'
 | .error j=>∀ h',Kp h.size h h'→Q (.ret (.tuple #[.slice none 0 0,.agg #[.int .i64 160,.int .i64 (j:Nat)]])) h'
theorem scan_bad {h h1:AH} {c:Array Value} {toks:List Tok} {s:ByteArray} {tv:Value} {i:Nat} {Q:RQ} (x:SC h h1 c toks tv) (hq:SPf Q h toks (.error i)) :
  G15_31 (.string s) (.pointer (some ⟨h.size,0,none⟩)) tv (.int .i64 i) (.pointer (some ⟨h.size + 1,0,none⟩)) h1 Q:=by
 refine G15_31_ok (XS15_31_ok ?_)
 unfold XS15_31
 have e:=x.err
 have e7:bdF #[.int .i64 0,.int .i64 0] [(0,1,.int .i64 160),(1,1,.int .i64 (i:Nat))]=some #[.int .i64 160,.int .i64 (i:Nat)]:=by rfl
 generalize hs2:stN 2=s2
 generalize hl2:ldN 2=l2
 simp (disch:=first|exact dz|fail) only [e,e7,SXB,SX,simprocAttr]
 subst hs2 hl2
 refine bq_of (stN_full x.err rfl rfl (fun z hz=>by simp [Value.cells] at hz;rcases hz with rfl | rfl <;> rfl)) ?_
 rw [ldN_full (n:=2) (get_put_eq rfl) rfl]
 simp (disch:=first|exact dz|fail) only [SXB,SX,simprocAttr]
 refine hq _ ?_
 have K:=x.K
 have hs:=x.size
 (repeat (first | exact Kp.refl _ _ | assumption | refine Kp.push ?_ _ _ (by first | omega | (simp only [sz_push,sz_put];omega)) | refine Kp.put ?_ _ _ (by first | omega | (simp only [sz_push,sz_put];omega))))
theorem tok_done {h h1:AH} {toks:List Tok} {s:ByteArray} {tv:Value} {t:Tok} {k:Nat} {Q:RQ} (x:SC h h1 #[.int .i64 t.cls,.int .i64 t.at_,.string t.text] toks tv) (ht:toks.length ≤ 5000)
  (next:∀ h2 c2 tv2,SC h h2 c2 (toks++[t]) tv2→H15_5 (.string s) (.pointer (some ⟨h.size,0,none⟩)) tv2 (.int .i64 k) (.pointer (some ⟨h.size + 1,0,none⟩)) h2 Q) :
  K15_29 (.string s) (.pointer (some ⟨h.size,0,none⟩)) tv (.int .i64 k) (.pointer (some ⟨h.size + 1,0,none⟩)) h1 Q:=by
 refine X15_29_ok ?_
 unfold X15_29
 have hs:=x.size
 rw [ldN_full (n:=3) x.tok rfl]
 rw [bq_some,bs_one (e:=55) (n:=3) rfl rfl,bq_some]
 have hl:(toks.map encT).length=toks.length:=by simp
 obtain ⟨s',h2,q1,q2,q3,q4,q5⟩:=x.out.append1 (v:=encT t) (c:=#[.int .i64 t.cls,.int .i64 t.at_,.string t.text]) (bytes:=32) (zero:=.agg #[.int .i64 0,.int .i64 0,.string ⟨#[]⟩]) rfl x.lt hs (fun v hv=>by
  obtain ⟨d,_,rfl⟩:=List.mem_map.1 hv;rfl) rfl (fun z hz=>by simp at hz;rcases hz with rfl | rfl | rfl <;> rfl) (by omega) (by omega) (by omega) rfl (by omega)
 refine bq_of q1 ?_
 refine G15_5_ok (XS15_5_ok ?_)
 unfold XS15_5
 have g:∀ k,k < h.size + 2→h2.get k=h1.get k:=fun k hk=>q4 k (by omega) fun e=>by have:=x.out.key k e;omega
 refine next h2 _ s' ⟨(g _ (by omega)).trans x.err,(g _ (by omega)).trans x.tok,rfl,by rw [List.map_append];exact q2,fun k hk=>?_,Nat.le_trans hs q3,⟨Nat.le_trans x.K.size q3,fun k hk=>(g k (by omega)).trans (x.K.get k hk)⟩⟩
 rcases q5 with e | ⟨k',e,h1,h3⟩
 ·rw [e] at hk;exact Nat.lt_of_lt_of_le (x.lt k hk) q3
 ·rw [e] at hk;cases hk;exact h3
end Go.Proofs.YtibigfkeaemanaaGreatDoor.L
end
