import Derived.WideShapes
import Derived.Test.YtibigfkeaemanaaGreatDoorZ27
set_option linter.unusedVariables false
set_option linter.unusedSimpArgs false
section
namespace Go.Proofs.YtibigfkeaemanaaGreatDoor.L
open Go.Ab Go.Lang Go.Proofs.YtibigfkeaemanaaGreatDoor.X
set_option maxRecDepth 100000
theorem eqT_eq {a b:ByteArray} (h:eqT a b=true):a=b:=by
 unfold eqT at h
 rw [ByteArray.toList_eq,ByteArray.toList_eq] at h
 exact Go.WideShapes.bytes_inj (by simpa using h)
theorem ST.take {h h1:AH} {kp:Nat} {e t u:Tok} {bv bv1:Value} {vs:List Var} {b l:Nat} {s:Lang.Stmt} {r:List Tok} {Q:RQ} (x:ST h h1 kp e t bv bv1 vs b l s (u::r)) (hu:u.cls ≠ 0)
  (hok:∀ h2 v,ST h h2 kp e t bv bv1 vs b l s r→Q (.ret v) h2):HC Tryz.prog 31 [.pointer (some ⟨kp,0,none⟩)].toArray h1 Q :=
 take_ok x.S fun h2 S2 a2=>hok h2 _ (x.adv S2 a2 (x.ok.tail hu))
theorem ST.block {h h1:AH} {kp M:Nat} {e t:Tok} {bv bv1 mv:Value} {vs more:List Var} {b l:Nat} {s:Lang.Stmt} {ts1:List Tok} {blk:BlockRd} {loop:Bool} {Q:RQ} (HB:BlockOK kp e b l blk M) (hblk:BlkOK blk) (x:ST h h1 kp e t bv bv1 vs b l s ts1) (hn:ts1.length ≤ M) (hv:VsOK vs) (hm:VsOK more) (hsz:vs.length + more.length + ts1.length ≤ 100000)
  (hsrc:∀ h',Adv kp h1 h'→Src h' 2 mv (more.map encV))
  (hok:∀ ss ts2 h2 bv2,blk loop (vs++more) ts1=.ok (ss,ts2)→ST h h2 kp e t bv bv2 vs b l s ts2→ts2.length < ts1.length→Q (.ret (slV (encSs ss))) h2) (herr:∀ f h2,blk loop (vs++more) ts1=.error f→PanS h2 kp→AdvB kp bv h h2→Q (.pan (faultV f)) h2) :
  HC Tryz.prog 29 [.pointer (some ⟨kp,0,none⟩),.bool loop,mv].toArray h1 Q:=by
 refine HC.mono (HB loop bv1 mv vs more ts1 h1 x.ok hn hv hm hsz x.S x.L x.G hsrc) fun r h2 hp=>?_
 cases hb:blk loop (vs++more) ts1 with
 | error f =>
  rw [hb] at hp
  obtain ⟨rfl,p,a⟩:=hp
  exact herr f h2 hb p (x.A.trans a x.B)
 | ok y =>
  obtain ⟨ss,ts2⟩:=y
  rw [hb] at hp
  obtain ⟨rfl,⟨bv2,S2,B2⟩,a⟩:=hp
  have sh:=hblk _ _ _ _ _ (hv.append hm) x.ok hb
  exact hok ss ts2 h2 bv2 hb (x.blk S2 B2 a sh.1) sh.2
theorem ST.unbound {h h1:AH} {kp:Nat} {e t:Tok} {bv bv1:Value} {vs:List Var} {b l:Nat} {s:Lang.Stmt} {ts1:List Tok} {Q:RQ} (x:ST h h1 kp e t bv bv1 vs b l s ts1) (hl:vs.length ≤ 1048576)
  (hok:∀ y ts2 h2,unboundF vs ts1=.ok (y,ts2)→ST h h2 kp e t bv bv1 vs b l s ts2→ts2.length < ts1.length→Q (.ret (.string y)) h2) (herr:∀ f h2,unboundF vs ts1=.error f→PanS h2 kp→AdvB kp bv h h2→Q (.pan (faultV f)) h2) :
  HC Tryz.prog 59 [.pointer (some ⟨kp,0,none⟩)].toArray h1 Q:=by
 have ok:=x.ok
 cases ts1 with
 | nil=>exact absurd rfl ok.ne
 | cons u r =>
  refine unbound_ok x.S x.L.kp x.G (fun h=>⟨(ok.good (by omega)).name h,(ok.good (by omega)).size⟩) hl (fun h2 hu S2 a2=>?_) (fun f h2 hu p a2=>?_)
  ·have sh:=unbound_shr hu ok
   exact hok _ _ h2 hu (x.adv S2 a2 sh.1) sh.2
  ·exact herr f h2 hu p (x.A.trans a2.b x.B)
theorem let_ok {h h1:AH} {kp:Nat} {e t:Tok} {bv bv1:Value} {vs:List Var} {b l:Nat} {r:List Tok} {rs:R ((Lang.Stmt × List Var) × List Tok)} (hv:VsOK vs) (hl:vs.length ≤ 1048576)
  (x:ST h h1 kp e t bv bv1 vs b l (.mk wLet empty .zero .zero [] []) r) (hlr:vs.length + r.length ≤ 100000) (hrs:rs=(letF vs r).map fun p=>((p.1.1,vs++[p.1.2]),p.2)) (Q:RQ) (hQ:Q=SPost kp e bv b l h rs) :
  HC Tryz.prog 59 [.pointer (some ⟨kp,0,none⟩)].toArray h1 (resK (fun t44 h2=>bq (stN 1 h2 (.pointer (some ⟨h.size + 2,1,none⟩)) t44) fun h2 =>
   HC Tryz.prog 28 [.pointer (some ⟨kp,0,none⟩),.int .i64 4,.string ⟨#[61]⟩].toArray h2 (resK (fun t47 h2 =>
    HC Tryz.prog 49 [.pointer (some ⟨kp,0,none⟩)].toArray h2 (resK (fun t50 h5=>bq (opExtract t50 0) fun t51=>bq (opExtract t50 1) fun t52 =>
     bq (stN 5 (h5.push (.cells #[.string ⟨#[]⟩,.int .i64 0,.int .i64 0,.string ⟨#[]⟩,.slice none 0 0] 64 (0,0)) none) (.pointer (some ⟨h5.size,0,none⟩)) t51) fun h6 =>
     bq (ldN 5 h6 (.pointer (some ⟨h5.size,0,none⟩))) fun t53 =>
     bq (stN 5 h6 (.pointer (some ⟨h.size + 2,2,none⟩)) t53) fun h7 =>
     HC Tryz.prog 28 [.pointer (some ⟨kp,0,none⟩),.int .i64 4,.string ⟨#[59]⟩].toArray h7 (resK (fun t56 h8 =>
      bq ((rowC (h8.get kp)).bind fun c=>c[1]?) fun t61 =>
      bq ((rowC (h8.get (h.size + 2))).bind fun c=>c[1]?) fun t63 =>
      bq (Option.map Value.agg (bdF #[.string ⟨#[]⟩,.int .u8 0] [(0,1,t63),(1,1,t52)])) fun t65 =>
      bq (Option.map (fun c=>(Value.slice (some ⟨h8.size,0,none⟩) 1 1,h8.push (.cells c 86 (0,0)) none)) (bdF #[.string ⟨#[]⟩,.int .u8 0] [(0,2,t65)])) fun r =>
      (bq ((rowC (r.snd.get kp)).bind fun c=>c[1]?) fun u=>u=t61) ∧
      bq (apT 86 2 24 (some (.agg #[.string ⟨#[]⟩,.int .u8 0])) r.snd t61 r.fst) fun r =>
      bq (stN 1 r.snd (.pointer (some ⟨kp,1,none⟩)) r.fst) fun h9=>K48_39 (.pointer (some ⟨h.size,0,none⟩)) (.pointer (some ⟨h.size + 2,0,none⟩)) h9 Q) (fun v h=>Q (.pan v) h)))
     (fun v h=>Q (.pan v) h))) (fun v h=>Q (.pan v) h))) (fun v h=>Q (.pan v) h)):=by
 subst hQ
 unfold letF at hrs
 have bad:∀ f h2,rs=.error f→PanS h2 kp→AdvB kp bv h h2→SPost kp e bv b l h rs (.pan (faultV f)) h2:=fun f h2 a p A=>.err a p A
 refine ST.unbound x hl (fun y ts2 h3 hy x3 l3=>?_) (fun f h3 hy p A=>?_)
 ·rw [hy] at hrs
  simp only at hrs
  simp only [RK,Nat.reduceAdd]
  refine bq_of (setName x3.X) ?_
  have x4:=x3.set (s':=.mk wLet y .zero .zero [] [])
  refine x4.want 4 mEq (by omega) (fun ts3 h4 hw x5 l5=>?_) (fun f hw p A=>?_)
  ·rw [hw] at hrs
   simp only at hrs
   simp only [RK,Nat.reduceAdd]
   refine HC.mono (expr0_at (kp:=kp) (e:=e) (bv:=bv1) (b:=b) (l:=l) x5.L.kp hv hl x5.ok h4 x5.S x5.G) fun res h5 hp=>?_
   cases he:expr0 vs ts3 with
   | error f =>
    rw [he] at hp hrs
    simp only at hrs
    obtain ⟨rfl,p,A⟩:=hp
    simp only [resK_pan]
    exact bad f h5 hrs p (x5.A.trans A.b x5.B)
   | ok z =>
    obtain ⟨⟨a,k⟩,ts4⟩:=z
    rw [he] at hp hrs
    simp only at hrs
    obtain ⟨rfl,S6,A6⟩:=hp
    have sh:=expr0_ok hv _ _ _ _ x5.ok he
    have x6:=x5.adv S6 A6 sh.1.1
    simp only [RK,Nat.reduceAdd]
    refine bq_of (x:=encE a) rfl ?_
    refine bq_of (x:=.int .u8 k) rfl ?_
    have ea:Value.agg (encE a).cells=encE a:=by rw [encE_cells,← encE_eq]
    refine bq_of (stN_full (get_push_eq rfl) rfl (by rw [encE_cells];simp [celE_len]) (fun z hz=>celE_one a z (by rw [encE_cells] at hz;simpa using hz))) ?_
    refine bq_of (ldN_full (get_put_eq rfl) (by rw [encE_cells];simp [celE_len])) ?_
    rw [ea]
    have hlt5:=x6.S.lt
    have x7:ST h ((h5.push (.cells #[.string ⟨#[]⟩,.int .i64 0,.int .i64 0,.string ⟨#[]⟩,.slice none 0 0] 64 (0,0)) none).put h5.size (some (.cells (encE a).cells 64 (0,0),none))) kp e t bv bv1 vs b l (.mk wLet y .zero .zero [] []) ts4:=x6.adv (x6.S.same (by (repeat (first | exact Kp.refl _ _ | assumption | refine Kp.push ?_ _ _ (by first | omega | (simp only [sz_push,sz_put];omega)) | refine Kp.put ?_ _ _ (by first | omega | (simp only [sz_push,sz_put];omega)))))) (by (repeat (first | exact Adv.refl _ _ | assumption | refine Adv.push ?_ _ _ | refine Adv.put ?_ _ _ (by first | exact .inl rfl | (right;first | omega | (simp only [sz_push,sz_put];omega)))))) x6.ok
    refine bq_of (setA x7.X) ?_
    have x8:=x7.set (s':=.mk wLet y a .zero [] [])
    refine x8.want 4 mSemi (by omega) (fun ts5 h8 hw x9 l9=>?_) (fun f hw p A=>?_)
    ·rw [hw] at hrs
     simp only at hrs
     simp only [RK,Nat.reduceAdd]
     refine bq_of (x:=bv1) (by rw [x9.S.row];rfl) ?_
     refine bq_of (x:=.string y) (by rw [x9.X.out];rfl) ?_
     refine bq_of (x:=encV (y,k)) rfl ?_
     refine bq_of (x:=(Value.slice (some ⟨h8.size,0,none⟩) 1 1,h8.push (.cells #[.string y,.int .u8 k] 86 (0,0)) none)) rfl ?_
     have hlt8:=x9.S.lt
     refine ⟨bq_of (x:=bv1) (by rw [get_push_ne (by omega),x9.S.row];rfl) rfl,?_⟩
     have hsh:=sh.1.2
     obtain ⟨s',h9,q1,q2,q3,q4,q5⟩:=x9.S.own.append1 (v:=encV (y,k)) (c:=#[.string y,.int .u8 k]) (bytes:=24) (zero:=.agg #[.string ⟨#[]⟩,.int .u8 0]) rfl x9.S.ltb (encVs_size vs) rfl (fun z hz=>by simp at hz;rcases hz with rfl | rfl <;> rfl) (by omega) (by omega) (by omega) rfl (by rw [List.length_map];omega)
     refine bq_of q1 ?_
     obtain ⟨y1,y2,y3,rfl⟩:=q2.isSl
     have gk9:h9.get kp=some (.cells #[tokV e ts5,bv1,.int .i64 (b:Nat),.int .i64 (l:Nat),.int .i64 (0:Nat)] 58 (0,0),none):=(q4 kp x9.S.lt x9.S.ne).trans x9.S.row
     simp (disch:=first|exact dz|fail) only [gk9,SXB,SX,simprocAttr]
     have hbn:blkOf (.slice y1 y2 y3) ≠ some kp:=fun e=>by
      rcases q5 with h | ⟨k,h,h1,h2⟩
      ·exact x9.S.ne (h ▸ e)
      ·rw [h] at e;cases e;omega
     have hX:=x9.X.size
     have g9:∀ k,k < h8.size→k ≠ kp→blkOf bv1 ≠ some k→(h9.put kp (prow (tokV e ts5) (.slice y1 y2 y3) b l 0)).get k=h8.get k:=fun k h1 h2 h4=>by
      rw [get_put_ne h2,q4 k h1 h4]
     have A9:AdvB kp bv1 h8 (h9.put kp (prow (tokV e ts5) (.slice y1 y2 y3) b l 0)):=⟨by rw [sz_put];exact q3,g9⟩
     have S9:PS (h9.put kp (prow (tokV e ts5) (.slice y1 y2 y3) b l 0)) kp e ts5 (.slice y1 y2 y3) (vs++[(y,k)]) b l 0:=by
      refine ⟨get_put_eq rfl,?_,hbn,?_,fun j hj=>?_⟩
      ·rw [List.map_append]
       exact q2.mono fun k hk=>get_put_ne fun e=>hbn (by rw [hk,e])
      ·rw [sz_put];omega
      ·rw [sz_put]
       rcases q5 with h | ⟨k',h,h1,h2⟩
       ·rw [h] at hj;have:=x9.S.ltb j hj;omega
       ·rw [h] at hj;cases hj;exact h2
     have B9:Bv h8 bv1 (.slice y1 y2 y3):=fun j hj=>by
      rcases q5 with h | ⟨k',h,h1,h2⟩
      ·rw [h] at hj;exact .inl hj
      ·rw [h] at hj;cases hj;exact .inr h1
     have x10:=x9.X.adv A9 x9.lt x9.hb
     refine stmt_end x9.lt x10 S9 (x9.A.trans A9 x9.B) (x9.B.trans B9 x9.A.size) (fun j hj=>?_) hrs
     rcases B9 j hj with h | h
     ·exact x9.hb j h
     ·exact .inr (Nat.le_trans hX h)
    ·rw [hw] at hrs
     simp only [resK_pan]
     exact bad f _ hrs p A
  ·rw [hw] at hrs
   simp only [resK_pan]
   exact bad f _ hrs p A
 ·rw [hy] at hrs
  simp only [resK_pan]
  exact bad f _ hrs p A
theorem if_ok {h h1:AH} {kp M:Nat} {e t:Tok} {bv bv1:Value} {vs:List Var} {b l:Nat} {r:List Tok} {blk:BlockRd} {rs:R ((Lang.Stmt × List Var) × List Tok)} (hv:VsOK vs) (hl:vs.length ≤ 1048576) (HB:BlockOK kp e b l blk M) (hblk:BlkOK blk)
  (x:ST h h1 kp e t bv bv1 vs b l (.mk wIf empty .zero .zero [] []) r) (hn:r.length ≤ M) (hlr:vs.length + r.length ≤ 100000) (hrs:rs=(ifF blk vs r).map fun p=>((p.1,vs),p.2)) (Q:RQ) (hQ:Q=SPost kp e bv b l h rs) :
  HC Tryz.prog 32 [.pointer (some ⟨kp,0,none⟩),.int .u8 110].toArray h1 (resK (fun t75 h2=>bq (stN 5 h2 (.pointer (some ⟨h.size + 2,2,none⟩)) t75) fun h2 =>
   HC Tryz.prog 29 [.pointer (some ⟨kp,0,none⟩),.bool false,.slice none 0 0].toArray h2 (resK (fun t78 h2=>bq (stN 1 h2 (.pointer (some ⟨h.size + 2,12,none⟩)) t78) fun h2 =>
    HC Tryz.prog 30 [.pointer (some ⟨kp,0,none⟩),.int .i64 1,.string ⟨#[101,108,115,101]⟩].toArray h2 (resK (fun t81 h2=>condP (some t81)
     (HC Tryz.prog 31 [.pointer (some ⟨kp,0,none⟩)].toArray h2 (resK (fun t83 h2 =>
      HC Tryz.prog 29 [.pointer (some ⟨kp,0,none⟩),.bool false,.slice none 0 0].toArray h2 (resK (fun t85 h2=>bq (stN 1 h2 (.pointer (some ⟨h.size + 2,13,none⟩)) t85) fun h2 =>
       K48_39 (.pointer (some ⟨h.size,0,none⟩)) (.pointer (some ⟨h.size + 2,0,none⟩)) h2 Q) (fun v h=>Q (.pan v) h))) (fun v h=>Q (.pan v) h)))
     (K48_39 (.pointer (some ⟨h.size,0,none⟩)) (.pointer (some ⟨h.size + 2,0,none⟩)) h2 Q)) (fun v h=>Q (.pan v) h)))
    (fun v h=>Q (.pan v) h))) (fun v h=>Q (.pan v) h)):=by
 subst hQ
 unfold ifF at hrs
 have bad:∀ f h2,rs=.error f→PanS h2 kp→AdvB kp bv h h2→SPost kp e bv b l h rs (.pan (faultV f)) h2:=fun f h2 a p A=>.err a p A
 refine x.of hv hl 110 (fun a ts2 h2 hof x2 l2=>?_) (fun f h2 hof p A=>?_)
 ·rw [hof] at hrs
  simp only at hrs
  simp only [RK,Nat.reduceAdd]
  refine bq_of (setA x2.X) ?_
  have x3:=x2.set (s':=.mk wIf empty a .zero [] [])
  refine x3.block (mv:=.slice none 0 0) (more:=[]) HB hblk (by omega) hv (fun v hv=>nomatch hv) (by simp;omega) (fun h' A=>.nil (n:=0)) (fun ss ts3 h3 bv2 hb x4 l4=>?_) (fun f h3 hb p A=>?_)
  ·rw [List.append_nil] at hb
   rw [hb] at hrs
   simp only at hrs
   simp only [RK,Nat.reduceAdd]
   refine bq_of (setBody x4.X) ?_
   have x5:=x4.set (s':=.mk wIf empty a .zero ss [])
   refine HC.exact (is_ok x5.S x5.ok.ne 1 wElse) ?_
   cases hel:isT ts3 1 wElse with
   | false =>
    rw [hel] at hrs
    simp only [Bool.false_eq_true,if_false] at hrs
    simp (disch:=first|exact dz|fail) only [SXB,SX,simprocAttr]
    exact x5.fin hrs
   | true =>
    rw [hel] at hrs
    simp only [if_true] at hrs
    simp (disch:=first|exact dz|fail) only [SXB,SX,simprocAttr]
    obtain ⟨u,ts4,hts,hu4⟩:∃ u r,ts3=u::r∧u.cls ≠ 0:=by
     cases ts3 with
     | nil=>exact absurd rfl x5.ok.ne
     | cons u r =>
      refine ⟨u,r,rfl,fun h0=>?_⟩
      simp [isT,h0] at hel
    subst hts
    refine ST.take x5 hu4 fun h4 v x6=>?_
    simp only [RK,Nat.reduceAdd]
    refine x6.block (mv:=.slice none 0 0) (more:=[]) HB hblk (by simp at l4;omega) hv (fun v hv=>nomatch hv) (by simp at l4 ⊢;omega) (fun h' A=>.nil (n:=0)) (fun ss2 ts5 h5 bv3 hb2 x7 l7=>?_) (fun f h5 hb2 p A=>?_)
    ·rw [List.append_nil] at hb2
     simp only [List.tail_cons,hb2] at hrs
     simp only [RK,Nat.reduceAdd]
     refine bq_of (setElse x7.X) ?_
     exact (x7.set (s':=.mk wIf empty a .zero ss ss2)).fin hrs
    ·rw [List.append_nil] at hb2
     simp only [List.tail_cons,hb2] at hrs
     simp only [resK_pan]
     exact bad f _ hrs p A
  ·rw [List.append_nil] at hb
   rw [hb] at hrs
   simp only [resK_pan]
   exact bad f _ hrs p A
 ·rw [hof] at hrs
  simp only [resK_pan]
  exact bad f _ hrs p A
structure SM (h h1:AH) (kp:Nat) (e t:Tok) (bv:Value) (vs:List Var) (b l:Nat) (r:List Tok):Prop where
 res:h1.get h.size=some (.cells (celS stmt0).toArray 104 (0,0),none)
 tok:h1.get (h.size + 1)=some (.cells #[.int .i64 t.cls,.int .i64 t.at_,.string t.text] 55 (0,0),none)
 size:h1.size=h.size + 2
 S:PS h1 kp e (t::r) bv vs b l 0
 A:Adv kp h h1
 ok:TokOK (t::r)
 G:Glob h1
 L:LoG 10 kp bv
 lt:kp < h.size
 ltb:∀ k,blkOf bv=some k→k < h.size
theorem SM.st {h h1:AH} {kp:Nat} {e t:Tok} {bv:Value} {vs:List Var} {b l:Nat} {r:List Tok} (x:SM h h1 kp e t bv vs b l r) {o:Obj} {sl:Option Nat} {s:Lang.Stmt}:ST h ((h1.push o sl).put (h.size + 2) (some (.cells (celS s).toArray 104 (0,0),none))) kp e t bv bv vs b l s (t::r):=by
 have hlt:=x.lt
 have hk:=x.L.kp
 have es:=x.size
 have xa:=x.A
 have A2:Adv kp h ((h1.push o sl).put (h.size + 2) (some (.cells (celS s).toArray 104 (0,0),none))):=by (repeat (first | exact Adv.refl _ _ | assumption | refine Adv.push ?_ _ _ | refine Adv.put ?_ _ _ (by first | exact .inl rfl | (right;first | omega | (simp only [sz_push,sz_put];omega)))))
 have g:∀ k,k < h.size + 2→((h1.push o sl).put (h.size + 2) (some (.cells (celS s).toArray 104 (0,0),none))).get k=h1.get k:=fun k hk=>by rw [get_put_ne (by omega),get_push_ne (by omega)]
 refine ⟨⟨(g _ (by omega)).trans x.res,(g _ (by omega)).trans x.tok,get_put_eq rfl,by rw [sz_put,sz_push];omega⟩,x.S.same (by (repeat (first | exact Kp.refl _ _ | assumption | refine Kp.push ?_ _ _ (by first | omega | (simp only [sz_push,sz_put];omega)) | refine Kp.put ?_ _ _ (by first | omega | (simp only [sz_push,sz_put];omega))))),A2.b,fun k h=>.inl h,fun k hk=>.inl (x.ltb k hk),x.ok,?_,x.L,hlt⟩
 exact x.G.adv (kp:=kp) (Adv.put (.push (.refl _ _) _ _) _ _ (.inr (by omega))) hk
theorem loop_end {h h1:AH} {kp M:Nat} {e t:Tok} {bv bv1:Value} {vs:List Var} {b l:Nat} {op y:ByteArray} {a c:Lang.Expr} {ts1:List Tok} {blk:BlockRd} {rs:R ((Lang.Stmt × List Var) × List Tok)} (HB:BlockOK kp e b l blk M) (hblk:BlkOK blk) (x:ST h h1 kp e t bv bv1 vs b l (.mk op y a c [] []) ts1)
  (hn:ts1.length ≤ M) (hv:VsOK vs) (hsz:vs.length + 1 + ts1.length ≤ 100000)
  (hrs:rs=match blk true (vs++[(y,kT)]) ts1 with | .error f=>.error f | .ok (p,ts)=>.ok ((.mk op y a c p [],vs),ts)) :
  K48_38 (.pointer (some ⟨kp,0,none⟩)) (.pointer (some ⟨h.size,0,none⟩)) (.pointer (some ⟨h.size + 2,0,none⟩)) h1 (SPost kp e bv b l h rs):=by
 refine X48_38_ok ?_
 unfold X48_38
 have go:h1.get (h.size + 2)=some (.cells (#[.string op,.string y]++(celE a++celE c++[slV (encSs []),slV (encSs [])]).toArray) 104 (0,0),none):=by
  rw [x.X.out];simp [celS]
 generalize hs1:stN 1=s1
 simp (disch:=first|exact dz|fail) only [SXB,SX,simprocAttr]
 refine bq_of (x:=.string y) (by rw [x.X.out];rfl) ?_
 simp (disch:=first|exact dz|fail) only [SXB,SX,simprocAttr]
 subst hs1
 have hasz:=x.S.lt
 have x1:ST h (h1.push (.cells #[.string y,.int .u8 116] 86 (0,0)) none) kp e t bv bv1 vs b l (.mk op y a c [] []) ts1:=x.adv (x.S.push _ _) (.push (.refl _ _) _ _) x.ok
 refine x1.block (more:=[(y,kT)]) HB hblk hn hv (.one (by decide)) (by simpa using hsz) (fun h' A=>?_) (fun ss ts2 h2 bv2 hb x2 _=>?_) (fun f h2 hb p A=>?_)
 ·refine Src.row (k:=h1.size) (off:=0) (m:=[encV (y,kT)]) ((A.get _ (by simp) (by omega)).trans (get_push_eq rfl)) (fun v hv=>encVs_size [(y,kT)] v (by simpa using hv)) (by simp) ?_
  simp [encV,flatC,Value.cells,kT]
 ·rw [hb] at hrs
  simp only at hrs
  simp only [RK,Nat.reduceAdd]
  refine bq_of (setBody x2.X) ?_
  exact (x2.set (s':=.mk op y a c ss [])).fin hrs
 ·rw [hb] at hrs
  simp only [resK_pan]
  exact .err hrs p A
theorem each_ok {h h1:AH} {kp M:Nat} {e t:Tok} {bv:Value} {vs:List Var} {b l:Nat} {r:List Tok} {blk:BlockRd} {o:Obj} {sl:Option Nat} {rs:R ((Lang.Stmt × List Var) × List Tok)} (hv:VsOK vs) (hl:vs.length ≤ 1048576) (HB:BlockOK kp e b l blk M) (hblk:BlkOK blk)
  (x:SM h h1 kp e t bv vs b l r) (ht:t.text=wEach) (hu:t.cls ≠ 0) (hn:r.length ≤ M) (hlr:vs.length + r.length ≤ 100000) (hrs:rs=(eachF blk vs r).map fun p=>((p.1,vs),p.2)) (Q:RQ) (hQ:Q=SPost kp e bv b l h rs) :
  K48_30 (.pointer (some ⟨kp,0,none⟩)) (.pointer (some ⟨h.size,0,none⟩)) (.pointer (some ⟨h.size + 1,0,none⟩)) (.pointer (some ⟨h.size + 2,0,none⟩)) (.bool true) ((h1.push o sl).put (h.size + 2) (some (.cells (celS (.mk t.text empty .zero .zero [] [])).toArray 104 (0,0),none))) Q:=by
 subst hQ
 refine X48_30_ok ?_
 unfold X48_30
 have bad:∀ f h2,rs=.error f→PanS h2 kp→AdvB kp bv h h2→SPost kp e bv b l h rs (.pan (faultV f)) h2:=fun f h2 a p A=>.err a p A
 unfold eachF at hrs
 generalize hs1:stN 1=s1
 generalize hs5:stN 5=s5
 simp (disch:=first|exact dz|fail) only [SXB,SX,simprocAttr]
 subst hs1 hs5
 rw [ht]
 refine ST.take (x.st (s:=.mk wEach empty .zero .zero [] [])) hu fun h2 v x2=>?_
 simp only [RK,Nat.reduceAdd]
 refine ST.unbound x2 hl (fun y ts2 h3 hy x3 l3=>?_) (fun f h3 hy p A=>?_)
 ·rw [hy] at hrs
  simp only at hrs
  simp only [RK,Nat.reduceAdd]
  refine bq_of (setName x3.X) ?_
  have x4:=x3.set (s':=.mk wEach y .zero .zero [] [])
  refine x4.want 1 wIn (by omega) (fun ts3 h4 hw x5 l5=>?_) (fun f hw p A=>?_)
  ·rw [hw] at hrs
   simp only at hrs
   simp only [RK,Nat.reduceAdd]
   refine bq_of (x:=.string t.text) (by rw [x5.X.tok];rfl) ?_
   have hne:(t.text.toList == (⟨#[102,111,114]⟩:ByteArray).toList)=false:=by rw [ht,ByteArray.toList_eq,ByteArray.toList_eq];decide
   generalize hs1:stN 1=s1
   generalize hs5:stN 5=s5
   simp (disch:=first|exact dz|fail) only [hne,SXB,SX,simprocAttr]
   subst hs1 hs5
   refine x5.of hv hl 116 (fun a ts4 h5 hof x6 l6=>?_) (fun f h5 hof p A=>?_)
   ·rw [hof] at hrs
    simp only at hrs
    simp only [RK,Nat.reduceAdd]
    refine bq_of (setA x6.X) ?_
    have x7:=x6.set (s':=.mk wEach y a .zero [] [])
    refine x7.want 1 wBy (by omega) (fun ts5 h6 hw x8 l8=>?_) (fun f hw p A=>?_)
    ·rw [hw] at hrs
     simp only at hrs
     simp only [RK,Nat.reduceAdd]
     refine x8.of hv hl 116 (fun c ts6 h7 hof x9 l9=>?_) (fun f h7 hof p A=>?_)
     ·rw [hof] at hrs
      simp only at hrs
      simp only [RK,Nat.reduceAdd]
      refine bq_of (setB x9.X) ?_
      refine loop_end HB hblk (x9.set (s':=.mk wEach y a c [] [])) (by omega) hv (by omega) ?_
      rw [hrs]
      cases blk true (vs++[(y,kT)]) ts6 <;> rfl
     ·rw [hof] at hrs
      simp only [resK_pan]
      exact bad f _ hrs p A
    ·rw [hw] at hrs
     simp only [resK_pan]
     exact bad f _ hrs p A
   ·rw [hof] at hrs
    simp only [resK_pan]
    exact bad f _ hrs p A
  ·rw [hw] at hrs
   simp only [resK_pan]
   exact bad f _ hrs p A
 ·rw [hy] at hrs
  simp only [resK_pan]
  exact bad f _ hrs p A
theorem for_ok {h h1:AH} {kp M:Nat} {e t:Tok} {bv:Value} {vs:List Var} {b l:Nat} {r:List Tok} {blk:BlockRd} {o:Obj} {sl:Option Nat} {rs:R ((Lang.Stmt × List Var) × List Tok)} (hv:VsOK vs) (hl:vs.length ≤ 1048576) (HB:BlockOK kp e b l blk M) (hblk:BlkOK blk)
  (x:SM h h1 kp e t bv vs b l r) (ht:t.text=wFor) (hu:t.cls ≠ 0) (hn:r.length ≤ M) (hlr:vs.length + r.length ≤ 100000) (hrs:rs=(forF blk vs r).map fun p=>((p.1,vs),p.2)) (Q:RQ) (hQ:Q=SPost kp e bv b l h rs) :
  K48_30 (.pointer (some ⟨kp,0,none⟩)) (.pointer (some ⟨h.size,0,none⟩)) (.pointer (some ⟨h.size + 1,0,none⟩)) (.pointer (some ⟨h.size + 2,0,none⟩)) (.bool true) ((h1.push o sl).put (h.size + 2) (some (.cells (celS (.mk t.text empty .zero .zero [] [])).toArray 104 (0,0),none))) Q:=by
 subst hQ
 refine X48_30_ok ?_
 unfold X48_30
 have bad:∀ f h2,rs=.error f→PanS h2 kp→AdvB kp bv h h2→SPost kp e bv b l h rs (.pan (faultV f)) h2:=fun f h2 a p A=>.err a p A
 unfold forF at hrs
 generalize hs1:stN 1=s1
 generalize hs5:stN 5=s5
 simp (disch:=first|exact dz|fail) only [SXB,SX,simprocAttr]
 subst hs1 hs5
 rw [ht]
 refine ST.take (x.st (s:=.mk wFor empty .zero .zero [] [])) hu fun h2 v x2=>?_
 simp only [RK,Nat.reduceAdd]
 refine ST.unbound x2 hl (fun y ts2 h3 hy x3 l3=>?_) (fun f h3 hy p A=>?_)
 ·rw [hy] at hrs
  simp only at hrs
  simp only [RK,Nat.reduceAdd]
  refine bq_of (setName x3.X) ?_
  have x4:=x3.set (s':=.mk wFor y .zero .zero [] [])
  refine x4.want 1 wIn (by omega) (fun ts3 h4 hw x5 l5=>?_) (fun f hw p A=>?_)
  ·rw [hw] at hrs
   simp only at hrs
   simp only [RK,Nat.reduceAdd]
   refine bq_of (x:=.string t.text) (by rw [x5.X.tok];rfl) ?_
   have hne:(t.text.toList == (⟨#[102,111,114]⟩:ByteArray).toList)=true:=by rw [ht];exact beq_self_eq_true _
   generalize hs1:stN 1=s1
   generalize hs5:stN 5=s5
   simp (disch:=first|exact dz|fail) only [hne,SXB,SX,simprocAttr]
   subst hs1 hs5
   refine x5.of hv hl 108 (fun a ts4 h5 hof x6 l6=>?_) (fun f h5 hof p A=>?_)
   ·rw [hof] at hrs
    simp only at hrs
    simp only [RK,Nat.reduceAdd]
    refine bq_of (setA x6.X) ?_
    refine loop_end HB hblk (x6.set (s':=.mk wFor y a .zero [] [])) (by omega) hv (by omega) ?_
    rw [hrs]
    cases blk true (vs++[(y,kT)]) ts4 <;> rfl
   ·rw [hof] at hrs
    simp only [resK_pan]
    exact bad f _ hrs p A
  ·rw [hw] at hrs
   simp only [resK_pan]
   exact bad f _ hrs p A
 ·rw [hy] at hrs
  simp only [resK_pan]
  exact bad f _ hrs p A
set_option maxHeartbeats 4000000 in
theorem stmt_mid {h h1:AH} {kp M:Nat} {e t:Tok} {bv:Value} {vs:List Var} {b l:Nat} {r:List Tok} {blk:BlockRd} (HB:BlockOK kp e b l blk M) (hblk:BlkOK blk) (x:SM h h1 kp e t bv vs b l r) (hc:t.cls=1)
  (hn:r.length ≤ M) (hv:VsOK vs) (hsz:vs.length + (r.length + 1) ≤ 100000) (rs:R ((Lang.Stmt × List Var) × List Tok)) (hrs:rs=stmtF blk vs (t::r)) (Q:RQ) (hQ:Q=SPost kp e bv b l h rs) :
  X48_4 (.pointer (some ⟨kp,0,none⟩)) (.pointer (some ⟨h.size,0,none⟩)) (.pointer (some ⟨h.size + 1,0,none⟩)) h1 Q:=by
 have hl:vs.length ≤ 1048576:=by omega
 unfold X48_4
 have gt:=x.tok
 have es:=x.size
 have hu:t.cls ≠ 0:=by omega
 have sh0:Shr (t::r) r:=Shr.of_tail x.ok hu
 have hcc:(t.cls != 1)=false:=by simp [hc]
 unfold stmtF at hrs
 simp only [hcc,Bool.false_eq_true,if_false] at hrs
 generalize hs1:stN 1=s1
 generalize hs5:stN 5=s5
 generalize hl5:ldN 5=l5
 by_cases hE:eqT t.text wEmit=true
 ·rw [if_pos hE] at hrs
  have hE':(t.text.toList == (⟨#[101,109,105,116]⟩:ByteArray).toList)=true:=hE
  simp (disch:=first|exact dz|fail) only [gt,es,hE',SXB,SX,simprocAttr]
  subst hs1 hs5 hl5
  rw [eqT_eq hE]
  refine ST.take (x.st (s:=.mk wEmit empty .zero .zero [] [])) hu fun h2 v x2=>?_
  simp only [RK,Nat.reduceAdd]
  exact emit_ok hv hl x2 hrs Q hQ
 rw [if_neg hE] at hrs
 have hE':(t.text.toList == (⟨#[101,109,105,116]⟩:ByteArray).toList)=false:=Bool.eq_false_iff.mpr hE
 by_cases hL:eqT t.text wLet=true
 ·rw [if_pos hL] at hrs
  have hL':(t.text.toList == (⟨#[108,101,116]⟩:ByteArray).toList)=true:=hL
  simp (disch:=first|exact dz|fail) only [gt,es,hE',hL',SXB,SX,simprocAttr]
  subst hs1 hs5 hl5
  rw [eqT_eq hL]
  refine ST.take (x.st (s:=.mk wLet empty .zero .zero [] [])) hu fun h2 v x2=>?_
  simp only [RK,Nat.reduceAdd]
  exact let_ok hv hl x2 (by have:=sh0.2;omega) hrs Q hQ
 rw [if_neg hL] at hrs
 have hL':(t.text.toList == (⟨#[108,101,116]⟩:ByteArray).toList)=false:=Bool.eq_false_iff.mpr hL
 by_cases hI:eqT t.text wIf=true
 ·rw [if_pos hI] at hrs
  have hI':(t.text.toList == (⟨#[105,102]⟩:ByteArray).toList)=true:=hI
  simp (disch:=first|exact dz|fail) only [gt,es,hE',hL',hI',SXB,SX,simprocAttr]
  subst hs1 hs5 hl5
  rw [eqT_eq hI]
  refine ST.take (x.st (s:=.mk wIf empty .zero .zero [] [])) hu fun h2 v x2=>?_
  simp only [RK,Nat.reduceAdd]
  exact if_ok hv hl HB hblk x2 hn (by have:=sh0.2;omega) hrs Q hQ
 rw [if_neg hI] at hrs
 have hI':(t.text.toList == (⟨#[105,102]⟩:ByteArray).toList)=false:=Bool.eq_false_iff.mpr hI
 by_cases hA:eqT t.text wEach=true
 ·rw [if_pos hA] at hrs
  have hA':(t.text.toList == (⟨#[101,97,99,104]⟩:ByteArray).toList)=true:=hA
  simp (disch:=first|exact dz|fail) only [gt,es,hE',hL',hI',hA',SXB,SX,simprocAttr]
  subst hs1 hs5 hl5
  exact each_ok hv hl HB hblk x (eqT_eq hA) hu hn (by have:=sh0.2;omega) hrs Q hQ
 rw [if_neg hA] at hrs
 have hA':(t.text.toList == (⟨#[101,97,99,104]⟩:ByteArray).toList)=false:=Bool.eq_false_iff.mpr hA
 by_cases hF:eqT t.text wFor=true
 ·rw [if_pos hF] at hrs
  have hF':(t.text.toList == (⟨#[102,111,114]⟩:ByteArray).toList)=true:=hF
  simp (disch:=first|exact dz|fail) only [gt,es,hE',hL',hI',hA',hF',SXB,SX,simprocAttr]
  subst hs1 hs5 hl5
  exact for_ok hv hl HB hblk x (eqT_eq hF) hu hn (by have:=sh0.2;omega) hrs Q hQ
 rw [if_neg hF] at hrs
 have hF':(t.text.toList == (⟨#[102,111,114]⟩:ByteArray).toList)=false:=Bool.eq_false_iff.mpr hF
 simp (disch:=first|exact dz|fail) only [gt,es,hE',hL',hI',hA',hF',SXB,SX,simprocAttr]
 subst hs1 hs5 hl5
 refine X48_30_ok ?_
 unfold X48_30
 have x2:=x.st (s:=.mk t.text empty .zero .zero [] []) (o:=Obj.cells #[.string empty,.string empty,.string empty,.int .i64 0,.int .i64 0,.string empty,.slice none 0 0,.string empty,.int .i64 0,.int .i64 0,.string empty,.slice none 0 0,.slice none 0 0,.slice none 0 0] 104 (0,0)) (sl:=none)
 simp (disch:=first|exact dz|fail) only [gt,es,SXB,SX,simprocAttr]
 refine fail_ok (k:=161) ?_
 simp (disch:=first|exact dz|fail) only [SXB,SX,simprocAttr]
 subst hQ
 exact .err hrs x2.S.pan x2.A
theorem stmt_ok {kp M:Nat} {e:Tok} {b l:Nat} {blk:BlockRd} (HB:BlockOK kp e b l blk M) (hblk:BlkOK blk):StmtOK kp e b l blk (M + 1):=by
 intro bv vs ts h ok hn hv hsz S L G
 refine X48_ok ?_
 unfold X48
 have hlt:=S.lt
 have hk:=L.kp
 cases ts with
 | nil=>exact absurd rfl ok.ne
 | cons t r =>
  simp (disch:=first|exact dz|fail) only [SXB,SX,simprocAttr]
  refine HC.exact (peek_ok (ow:=true) (t:=t) (r:=r) (bv:=bv) (vs:=vs) (b:=b) (l:=l) (c:=0) (e:=e) (S.same ?_)) ?_
  ·(repeat (first | exact Kp.refl _ _ | assumption | refine Kp.push ?_ _ _ (by first | omega | (simp only [sz_push,sz_put];omega)) | refine Kp.put ?_ _ _ (by first | omega | (simp only [sz_push,sz_put];omega))))
  simp (disch:=first|exact dz|fail) only [encT,SXB,SX,simprocAttr]
  by_cases hc:t.cls=1
  ·have e1:((t.cls:Int) != 1)=false:=by simp [hc]
   simp (disch:=first|exact dz|fail) only [e1,SXB,SX,simprocAttr]
   refine X48_4_ok ?_
   refine stmt_mid HB hblk ⟨?_,?_,?_,S.same (by (repeat (first | exact Kp.refl _ _ | assumption | refine Kp.push ?_ _ _ (by first | omega | (simp only [sz_push,sz_put];omega)) | refine Kp.put ?_ _ _ (by first | omega | (simp only [sz_push,sz_put];omega))))),by (repeat (first | exact Adv.refl _ _ | assumption | refine Adv.push ?_ _ _ | refine Adv.put ?_ _ _ (by first | exact .inl rfl | (right;first | omega | (simp only [sz_push,sz_put];omega))))),ok,G.adv (kp:=kp) (by (repeat (first | exact Adv.refl _ _ | assumption | refine Adv.push ?_ _ _ | refine Adv.put ?_ _ _ (by first | exact .inl rfl | (right;first | omega | (simp only [sz_push,sz_put];omega)))))) hk,L,hlt,S.ltb⟩ hc (by simpa using hn) hv (by simpa using hsz) _ rfl _ rfl
   ·simp (disch:=first|exact dz|fail) only [SXB,SX,simprocAttr]
    rfl
   ·simp (disch:=first|exact dz|fail) only [SXB,SX,simprocAttr]
   ·simp (disch:=first|exact dz|fail) only [SXB,SX,simprocAttr]
  ·have e1:((t.cls:Int) != 1)=true:=by simp;omega
   simp (disch:=first|exact dz|fail) only [e1,SXB,SX,simprocAttr]
   refine fail_ok (k:=161) ?_
   simp (disch:=first|exact dz|fail) only [SXB,SX,simprocAttr]
   have hx:stmtF blk vs (t::r)=.error (161,t.at_):=by
    have:(t.cls != 1)=true:=by simpa using hc
    unfold stmtF
    simp only [this,if_true]
   rw [hx]
   exact ⟨rfl,(S.same (by (repeat (first | exact Kp.refl _ _ | assumption | refine Kp.push ?_ _ _ (by first | omega | (simp only [sz_push,sz_put];omega)) | refine Kp.put ?_ _ _ (by first | omega | (simp only [sz_push,sz_put];omega))))):PS _ kp e (t::r) bv vs b l 0).pan,Adv.b (by (repeat (first | exact Adv.refl _ _ | assumption | refine Adv.push ?_ _ _ | refine Adv.put ?_ _ _ (by first | exact .inl rfl | (right;first | omega | (simp only [sz_push,sz_put];omega))))))⟩
theorem blk_of:∀ (n:Nat) {kp:Nat} {e:Tok} {b l:Nat},b ≤ 8→l ≤ 2→BlockOK kp e b l (blockG (stmtsF n) b l) n:=by
 intro n
 induction n using Nat.strongRecOn with
 | _ n ih =>
  intro kp e b l hb hl
  refine block_ok hb hl fun loop h1 h2 m hm=>stmt_ok (ih m hm (by omega) ?_) ?_
  ·cases loop
   ·simpa using hl
   ·have:=h2 rfl;simp;omega
  ·exact blockG_ok _ _ _
end Go.Proofs.YtibigfkeaemanaaGreatDoor.L
end
section
namespace Go.Proofs.YtibigfkeaemanaaGreatDoor.L
open Go.Ab Go.Lang Go.Proofs.YtibigfkeaemanaaGreatDoor.X
set_option maxRecDepth 100000
structure PR (h h1:AH) (kp:Nat) (e:Tok) (bv:Value) (p:Lang.Prog) (ts:List Tok):Prop where
 many:h1.get h.size=some (.cells #[.string wKey,.int .u8 116,.string wValues,.int .u8 108] 86 (0,0),none)
 out:h1.get (h.size + 1)=some (.cells (celP p).toArray 66 (0,0),none)
 size:h.size + 2 ≤ h1.size
 S:PS h1 kp e ts bv [] 0 0 0
 A:Adv kp h h1
 hb:∀ k,blkOf bv=some k→h.size + 2 ≤ k
 ok:TokOK ts
 G:Glob h1
 L:LoG 10 kp bv
 lt:kp < h.size
theorem PR.keep {h h1 h2:AH} {kp:Nat} {e:Tok} {bv bv2:Value} {p:Lang.Prog} {ts ts2:List Tok} (x:PR h h1 kp e bv p ts) (S2:PS h2 kp e ts2 bv2 [] 0 0 0) (a:AdvB kp bv h1 h2) (hb2:∀ k,blkOf bv2=some k→h.size + 2 ≤ k) (ok:TokOK ts2):PR h h2 kp e bv2 p ts2:=by
 have hs:=x.size
 have hlt:=x.lt
 have hk:=x.L.kp
 have g:∀ k,k < h.size + 2→k ≠ kp→h2.get k=h1.get k:=fun k h1 h2=>a.get k (by omega) h2 fun e=>by have:=x.hb k e;omega
 exact ⟨(g _ (by omega) (by omega)).trans x.many,(g _ (by omega) (by omega)).trans x.out,Nat.le_trans hs a.size,S2,⟨Nat.le_trans x.A.size a.size,fun k h1 h2=>(g k (by omega) h2).trans (x.A.get k h1 h2)⟩,hb2,ok,x.G.advB a x.L,⟨hk,fun k h=>by have:=hb2 k h;omega⟩,hlt⟩
theorem PR.adv {h h1 h2:AH} {kp:Nat} {e:Tok} {bv:Value} {p:Lang.Prog} {ts ts2:List Tok} (x:PR h h1 kp e bv p ts) (S2:PS h2 kp e ts2 bv [] 0 0 0) (a:Adv kp h1 h2) (ok:TokOK ts2):PR h h2 kp e bv p ts2:=x.keep S2 a.b x.hb ok
theorem PR.set {h h1:AH} {kp:Nat} {e:Tok} {bv:Value} {p p':Lang.Prog} {ts:List Tok} (x:PR h h1 kp e bv p ts):PR h (h1.put (h.size + 1) (some (.cells (celP p').toArray 66 (0,0),none))) kp e bv p' ts:=by
 have hs:=x.size
 have hlt:=x.lt
 have hk:=x.L.kp
 obtain ⟨⟨m,e,fz,s,h1⟩,⟨e2,fz2,s2,h2⟩,h3⟩:=x.G
 exact ⟨by rw [get_put_ne (by omega)];exact x.many,get_put_eq rfl,by rw [sz_put];exact hs,x.S.put (by omega) (fun e=>by have:=x.hb _ e;omega),x.A.put _ _ (.inr (by omega)),x.hb,x.ok,
  ⟨⟨m,e,fz,s,by rw [get_put_ne (by omega)];exact h1⟩,⟨e2,fz2,s2,by rw [get_put_ne (by omega)];exact h2⟩,by rw [sz_put];exact h3⟩,x.L,hlt⟩
def PPost (kp:Nat) (h:AH) (rs:R Lang.Prog) (r:Res) (h':AH):Prop:=match rs with
 | .ok p=>r=.ret (.pointer (some ⟨h.size + 1,0,none⟩))∧h'.get (h.size + 1)=some (.cells (celP p).toArray 66 (0,0),none)∧h.size + 2 ≤ h'.size∧Adv kp h h'
 | .error f=>r=.pan (faultV f)∧Adv kp h h'
theorem PPost.err {kp:Nat} {h h':AH} {rs:R Lang.Prog} {f:Nat × Nat} (hrs:rs=.error f) (A:Adv kp h h'):PPost kp h rs (.pan (faultV f)) h':=by rw [hrs];exact ⟨rfl,A⟩
theorem PR.want {h h1:AH} {kp:Nat} {e:Tok} {bv:Value} {p:Lang.Prog} {ts:List Tok} {Q:RQ} (x:PR h h1 kp e bv p ts) (k:Nat) (y:ByteArray) (hk:k ≠ 0)
  (hok:∀ ts2 h2,Lang.want k y ts=.ok ts2→PR h h2 kp e bv p ts2→ts2.length < ts.length→Q (.ret (.tuple #[])) h2) (herr:∀ f,Lang.want k y ts=.error f→Adv kp h h1→Q (.pan (faultV f)) h1) :
  HC Tryz.prog 28 [.pointer (some ⟨kp,0,none⟩),.int .i64 (k:Int),.string y].toArray h1 Q :=
 want_ok x.S x.ok.ne k y (fun ts2 h2 hw S2 a2=>by
  have sh:=want_shr hw hk x.ok
  exact hok ts2 h2 hw (x.adv S2 a2 sh.1) sh.2) fun f hw=>herr f hw x.A
theorem PR.take {h h1:AH} {kp:Nat} {e u:Tok} {bv:Value} {p:Lang.Prog} {r:List Tok} {Q:RQ} (x:PR h h1 kp e bv p (u::r)) (hu:u.cls ≠ 0)
  (hok:∀ h2 v,PR h h2 kp e bv p r→Q (.ret v) h2):HC Tryz.prog 31 [.pointer (some ⟨kp,0,none⟩)].toArray h1 Q :=
 take_ok x.S fun h2 S2 a2=>hok h2 _ (x.adv S2 a2 (x.ok.tail hu))
theorem PR.block {h h1:AH} {kp:Nat} {e:Tok} {bv mv:Value} {p:Lang.Prog} {ts:List Tok} {more:List Var} {Q:RQ} (x:PR h h1 kp e bv p ts) (hm:VsOK more) (hsz:more.length + ts.length ≤ 100000)
  (hsrc:∀ h',Adv kp h1 h'→Src h' 2 mv (more.map encV))
  (hok:∀ ss ts2 h2 bv2,block0 more ts=.ok (ss,ts2)→PR h h2 kp e bv2 p ts2→ts2.length < ts.length→Q (.ret (slV (encSs ss))) h2) (herr:∀ f h2,block0 more ts=.error f→Adv kp h h2→Q (.pan (faultV f)) h2) :
  HC Tryz.prog 29 [.pointer (some ⟨kp,0,none⟩),.bool false,mv].toArray h1 Q:=by
 have hs:=x.size
 refine HC.mono (blk_of ts.length (b:=0) (l:=0) (by omega) (by omega) false bv mv [] more ts h1 x.ok (Nat.le_refl _) (fun v hv=>nomatch hv) hm (by simpa using hsz) x.S x.L x.G hsrc) fun r h2 hp=>?_
 change BPost kp e bv [] 0 0 h1 (block0 more ts) r h2 at hp
 have adv:AdvB kp bv h1 h2→Adv kp h h2:=fun a=>⟨Nat.le_trans x.A.size a.size,fun k h1 h2=>(a.get k (by omega) h2 fun e=>by have:=x.hb k e;omega).trans (x.A.get k h1 h2)⟩
 cases hb:block0 more ts with
 | error f =>
  rw [hb] at hp
  obtain ⟨rfl,q,a⟩:=hp
  exact herr f h2 hb (adv a)
 | ok y =>
  obtain ⟨ss,ts2⟩:=y
  rw [hb] at hp
  obtain ⟨rfl,⟨bv2,S2,B2⟩,a⟩:=hp
  have sh:=blockG_ok _ _ _ _ _ _ _ _ hm x.ok hb
  refine hok ss ts2 h2 bv2 hb (x.keep S2 a (fun k hk=>?_) sh.1) sh.2
  rcases B2 k hk with h | h
  ·exact x.hb k h
  ·exact Nat.le_trans hs h
theorem setP1 {h1:AH} {q:Nat} {m c r:List Lang.Stmt} {cs ps:Bool} {pt:Lang.Expr} {m':List Lang.Stmt} (X:h1.get q=some (.cells (celP ⟨m,c,r,cs,ps,pt⟩).toArray 66 (0,0),none)):stN 1 h1 (.pointer (some ⟨q,0,none⟩)) (slV (encSs m'))=some (h1.put q (some (.cells (celP ⟨m',c,r,cs,ps,pt⟩).toArray 66 (0,0),none))) :=
 stN_mid (a:=[]) (b:=[slV (encSs m)]) (c:=[slV (encSs c),slV (encSs r),.bool cs,.bool ps]++celE pt) (v:=slV (encSs m')) (by simpa [celP] using X) rfl rfl (by rw [cells_slV];rfl) (fun z hz=>by rw [cells_slV] at hz;simp at hz;subst hz;exact one_slV _) |>.trans (by simp [celP,cells_slV])
theorem setP2 {h1:AH} {q:Nat} {m c r:List Lang.Stmt} {cs ps:Bool} {pt:Lang.Expr} {m':List Lang.Stmt} (X:h1.get q=some (.cells (celP ⟨m,c,r,cs,ps,pt⟩).toArray 66 (0,0),none)):stN 1 h1 (.pointer (some ⟨q,1,none⟩)) (slV (encSs m'))=some (h1.put q (some (.cells (celP ⟨m,m',r,cs,ps,pt⟩).toArray 66 (0,0),none))) :=
 stN_mid (a:=[slV (encSs m)]) (b:=[slV (encSs c)]) (c:=[slV (encSs r),.bool cs,.bool ps]++celE pt) (v:=slV (encSs m')) (by simpa [celP] using X) rfl rfl (by rw [cells_slV];rfl) (fun z hz=>by rw [cells_slV] at hz;simp at hz;subst hz;exact one_slV _) |>.trans (by simp [celP,cells_slV])
theorem setP3 {h1:AH} {q:Nat} {m c r:List Lang.Stmt} {cs ps:Bool} {pt:Lang.Expr} {m':List Lang.Stmt} (X:h1.get q=some (.cells (celP ⟨m,c,r,cs,ps,pt⟩).toArray 66 (0,0),none)):stN 1 h1 (.pointer (some ⟨q,2,none⟩)) (slV (encSs m'))=some (h1.put q (some (.cells (celP ⟨m,c,m',cs,ps,pt⟩).toArray 66 (0,0),none))) :=
 stN_mid (a:=[slV (encSs m),slV (encSs c)]) (b:=[slV (encSs r)]) (c:=[.bool cs,.bool ps]++celE pt) (v:=slV (encSs m')) (by simpa [celP] using X) rfl rfl (by rw [cells_slV];rfl) (fun z hz=>by rw [cells_slV] at hz;simp at hz;subst hz;exact one_slV _) |>.trans (by simp [celP,cells_slV])
theorem setP4 {h1:AH} {q:Nat} {m c r:List Lang.Stmt} {cs ps:Bool} {pt:Lang.Expr} (X:h1.get q=some (.cells (celP ⟨m,c,r,cs,ps,pt⟩).toArray 66 (0,0),none)):stN 1 h1 (.pointer (some ⟨q,3,none⟩)) (.bool true)=some (h1.put q (some (.cells (celP ⟨m,c,r,true,ps,pt⟩).toArray 66 (0,0),none))) :=
 stN_mid (a:=[slV (encSs m),slV (encSs c),slV (encSs r)]) (b:=[.bool cs]) (c:=[.bool ps]++celE pt) (v:=.bool true) (by simpa [celP] using X) rfl rfl rfl (fun z hz=>by simp [Value.cells] at hz;subst hz;rfl) |>.trans (by simp [celP,Value.cells])
theorem setP5 {h1:AH} {q:Nat} {m c r:List Lang.Stmt} {cs ps:Bool} {pt:Lang.Expr} (X:h1.get q=some (.cells (celP ⟨m,c,r,cs,ps,pt⟩).toArray 66 (0,0),none)):stN 1 h1 (.pointer (some ⟨q,4,none⟩)) (.bool true)=some (h1.put q (some (.cells (celP ⟨m,c,r,cs,true,pt⟩).toArray 66 (0,0),none))) :=
 stN_mid (a:=[slV (encSs m),slV (encSs c),slV (encSs r),.bool cs]) (b:=[.bool ps]) (c:=celE pt) (v:=.bool true) (by simpa [celP] using X) rfl rfl rfl (fun z hz=>by simp [Value.cells] at hz;subst hz;rfl) |>.trans (by simp [celP,Value.cells])
theorem setP6 {h1:AH} {q:Nat} {m c r:List Lang.Stmt} {cs ps:Bool} {pt a':Lang.Expr} (X:h1.get q=some (.cells (celP ⟨m,c,r,cs,ps,pt⟩).toArray 66 (0,0),none)):stN 5 h1 (.pointer (some ⟨q,5,none⟩)) (encE a')=some (h1.put q (some (.cells (celP ⟨m,c,r,cs,ps,a'⟩).toArray 66 (0,0),none))) :=
 stN_mid (a:=[slV (encSs m),slV (encSs c),slV (encSs r),.bool cs,.bool ps]) (b:=celE pt) (c:=[]) (v:=encE a') (by simpa [celP] using X) rfl (celE_len pt) (by rw [encE_cells];simp [celE_len]) (fun z hz=>celE_one a' z (by rw [encE_cells] at hz;simpa using hz)) |>.trans (by simp [celP,encE_cells])
theorem prog_end {h h1:AH} {kp:Nat} {e:Tok} {bv:Value} {p:Lang.Prog} {ts:List Tok} {rs:R Lang.Prog} {ow:Bool} {vs:List Var} (S:PSg ow h1 kp e ts bv vs 0 0 0) (hne:ts ≠ []) (out:h1.get (h.size + 1)=some (.cells (celP p).toArray 66 (0,0),none)) (hs:h.size + 2 ≤ h1.size) (A:Adv kp h h1) (hlt:kp < h.size)
  (hrs:rs=match Lang.want 0 empty ts with | .error f=>.error f | .ok _=>.ok p):K17_17 (.pointer (some ⟨kp,0,none⟩)) (.pointer (some ⟨h.size + 1,0,none⟩)) h1 (PPost kp h rs):=by
 refine X17_17_ok ?_
 unfold X17_17
 simp (disch:=first|exact dz|fail) only [SXB,SX,simprocAttr]
 refine want_ok S hne 0 empty (fun ts2 h2 hw S2 a2=>?_) fun f hw=>?_
 ·rw [hw] at hrs
  simp only at hrs
  simp (disch:=first|exact dz|fail) only [SXB,SX,simprocAttr]
  rw [hrs]
  exact ⟨rfl,(a2.get _ (by omega) (by omega)).trans out,Nat.le_trans hs a2.size,A.trans a2⟩
 ·rw [hw] at hrs
  simp (disch:=first|exact dz|fail) only [SXB,SX,simprocAttr]
  exact .err hrs A
end Go.Proofs.YtibigfkeaemanaaGreatDoor.L
end
