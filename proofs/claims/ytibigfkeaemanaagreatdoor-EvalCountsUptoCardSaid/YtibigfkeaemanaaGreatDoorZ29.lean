import Derived.Test.YtibigfkeaemanaaGreatDoorZ28
set_option linter.unusedVariables false
set_option linter.unusedSimpArgs false
section
namespace Go.Proofs.YtibigfkeaemanaaGreatDoor.L
open Go.Ab Go.Lang Go.Proofs.YtibigfkeaemanaaGreatDoor.X
set_option maxRecDepth 100000
structure PR (h h1:AH) (kp:Nat) (e:Tok) (bv:Value) (p:Lang.Prog) (ts:List Tok):Prop where
 many:h1.get h.size=some (.cells #[.string wKey,.int .u8 116,.string wValues,.int .u8 108] 86 (0,0),none)
 out:h1.get (h.size + 1)=some (.cells (celP p).toArray 66 (0,0),none)
 size:h.size + 2 ≤ h1.size
 S:PS h1 kp e ts bv [] 0 0 0
 A:Adv kp h h1
 hb:∀ k,blkOf bv=some k→h.size + 2 ≤ k
 ok:TokOK ts
 G:Glob h1
 L:LoG 10 kp bv
 lt:kp < h.size
theorem PR.keep {h h1 h2:AH} {kp:Nat} {e:Tok} {bv bv2:Value} {p:Lang.Prog} {ts ts2:List Tok} (x:PR h h1 kp e bv p ts) (S2:PS h2 kp e ts2 bv2 [] 0 0 0) (a:AdvB kp bv h1 h2) (hb2:∀ k,blkOf bv2=some k→h.size + 2 ≤ k) (ok:TokOK ts2):PR h h2 kp e bv2 p ts2:=by
 have hs:=x.size
 have hlt:=x.lt
 have hk:=x.L.kp
 have g:∀ k,k < h.size + 2→k ≠ kp→h2.get k=h1.get k:=fun k h1 h2=>a.get k (by omega) h2 fun e=>by have:=x.hb k e;omega
 exact ⟨(g _ (by omega) (by omega)).trans x.many,(g _ (by omega) (by omega)).trans x.out,Nat.le_trans hs a.size,S2,⟨Nat.le_trans x.A.size a.size,fun k h1 h2=>(g k (by omega) h2).trans (x.A.get k h1 h2)⟩,hb2,ok,x.G.advB a x.L,⟨hk,fun k h=>by have:=hb2 k h;omega⟩,hlt⟩
theorem PR.adv {h h1 h2:AH} {kp:Nat} {e:Tok} {bv:Value} {p:Lang.Prog} {ts ts2:List Tok} (x:PR h h1 kp e bv p ts) (S2:PS h2 kp e ts2 bv [] 0 0 0) (a:Adv kp h1 h2) (ok:TokOK ts2):PR h h2 kp e bv p ts2:=x.keep S2 a.b x.hb ok
theorem PR.set {h h1:AH} {kp:Nat} {e:Tok} {bv:Value} {p p':Lang.Prog} {ts:List Tok} (x:PR h h1 kp e bv p ts):PR h (h1.put (h.size + 1) (some (.cells (celP p').toArray 66 (0,0),none))) kp e bv p' ts:=by
 have hs:=x.size
 have hlt:=x.lt
 have hk:=x.L.kp
 obtain ⟨⟨m,e,fz,s,h1⟩,⟨e2,fz2,s2,h2⟩,h3⟩:=x.G
 exact ⟨by rw [get_put_ne (by omega)];exact x.many,get_put_eq rfl,by rw [sz_put];exact hs,x.S.put (by omega) (fun e=>by have:=x.hb _ e;omega),x.A.put _ _ (.inr (by omega)),x.hb,x.ok,
  ⟨⟨m,e,fz,s,by rw [get_put_ne (by omega)];exact h1⟩,⟨e2,fz2,s2,by rw [get_put_ne (by omega)];exact h2⟩,by rw [sz_put];exact h3⟩,x.L,hlt⟩
def PPost (kp:Nat) (h:AH) (rs:R Lang.Prog) (r:Res) (h':AH):Prop:=match rs with
 | .ok p=>r=.ret (.pointer (some ⟨h.size + 1,0,none⟩))∧h'.get (h.size + 1)=some (.cells (celP p).toArray 66 (0,0),none)∧h.size + 2 ≤ h'.size∧Adv kp h h'
 | .error f=>r=.pan (faultV f)∧Adv kp h h'
theorem PPost.err {kp:Nat} {h h':AH} {rs:R Lang.Prog} {f:Nat × Nat} (hrs:rs=.error f) (A:Adv kp h h'):PPost kp h rs (.pan (faultV f)) h':=by rw [hrs];exact ⟨rfl,A⟩
theorem PR.want {h h1:AH} {kp:Nat} {e:Tok} {bv:Value} {p:Lang.Prog} {ts:List Tok} {Q:RQ} (x:PR h h1 kp e bv p ts) (k:Nat) (y:ByteArray) (hk:k ≠ 0)
  (hok:∀ ts2 h2,Lang.want k y ts=.ok ts2→PR h h2 kp e bv p ts2→ts2.length < ts.length→Q (.ret (.tuple #[])) h2) (herr:∀ f,Lang.want k y ts=.error f→Adv kp h h1→Q (.pan (faultV f)) h1) :
  HC Tryz.prog 28 [.pointer (some ⟨kp,0,none⟩),.int .i64 (k:Int),.string y].toArray h1 Q :=
 want_ok x.S x.ok.ne k y (fun ts2 h2 hw S2 a2=>by
  have sh:=want_shr hw hk x.ok
  exact hok ts2 h2 hw (x.adv S2 a2 sh.1) sh.2) fun f hw=>herr f hw x.A
theorem PR.take {h h1:AH} {kp:Nat} {e u:Tok} {bv:Value} {p:Lang.Prog} {r:List Tok} {Q:RQ} (x:PR h h1 kp e bv p (u::r)) (hu:u.cls ≠ 0)
  (hok:∀ h2 v,PR h h2 kp e bv p r→Q (.ret v) h2):HC Tryz.prog 31 [.pointer (some ⟨kp,0,none⟩)].toArray h1 Q :=
 take_ok x.S fun h2 S2 a2=>hok h2 _ (x.adv S2 a2 (x.ok.tail hu))
theorem PR.block {h h1:AH} {kp:Nat} {e:Tok} {bv mv:Value} {p:Lang.Prog} {ts:List Tok} {more:List Var} {Q:RQ} (x:PR h h1 kp e bv p ts) (hm:VsOK more) (hsz:more.length + ts.length ≤ 100000)
  (hsrc:∀ h',Adv kp h1 h'→Src h' 2 mv (more.map encV))
  (hok:∀ ss ts2 h2 bv2,block0 more ts=.ok (ss,ts2)→PR h h2 kp e bv2 p ts2→ts2.length < ts.length→Q (.ret (slV (encSs ss))) h2) (herr:∀ f h2,block0 more ts=.error f→Adv kp h h2→Q (.pan (faultV f)) h2) :
  HC Tryz.prog 29 [.pointer (some ⟨kp,0,none⟩),.bool false,mv].toArray h1 Q:=by
 have hs:=x.size
 refine HC.mono (blk_of ts.length (b:=0) (l:=0) (by omega) (by omega) false bv mv [] more ts h1 x.ok (Nat.le_refl _) (fun v hv=>nomatch hv) hm (by simpa using hsz) x.S x.L x.G hsrc) fun r h2 hp=>?_
 change BPost kp e bv [] 0 0 h1 (block0 more ts) r h2 at hp
 have adv:AdvB kp bv h1 h2→Adv kp h h2:=fun a=>⟨Nat.le_trans x.A.size a.size,fun k h1 h2=>(a.get k (by omega) h2 fun e=>by have:=x.hb k e;omega).trans (x.A.get k h1 h2)⟩
 cases hb:block0 more ts with
 | error f =>
  rw [hb] at hp
  obtain ⟨rfl,q,a⟩:=hp
  exact herr f h2 hb (adv a)
 | ok y =>
  obtain ⟨ss,ts2⟩:=y
  rw [hb] at hp
  obtain ⟨rfl,⟨bv2,S2,B2⟩,a⟩:=hp
  have sh:=blockG_ok _ _ _ _ _ _ _ _ hm x.ok hb
  refine hok ss ts2 h2 bv2 hb (x.keep S2 a (fun k hk=>?_) sh.1) sh.2
  rcases B2 k hk with h | h
  ·exact x.hb k h
  ·exact Nat.le_trans hs h
theorem setP1 {h1:AH} {q:Nat} {m c r:List Lang.Stmt} {cs ps:Bool} {pt:Lang.Expr} {m':List Lang.Stmt} (X:h1.get q=some (.cells (celP ⟨m,c,r,cs,ps,pt⟩).toArray 66 (0,0),none)):stN 1 h1 (.pointer (some ⟨q,0,none⟩)) (slV (encSs m'))=some (h1.put q (some (.cells (celP ⟨m',c,r,cs,ps,pt⟩).toArray 66 (0,0),none))) :=
 stN_mid (a:=[]) (b:=[slV (encSs m)]) (c:=[slV (encSs c),slV (encSs r),.bool cs,.bool ps]++celE pt) (v:=slV (encSs m')) (by simpa [celP] using X) rfl rfl (by rw [cells_slV];rfl) (fun z hz=>by rw [cells_slV] at hz;simp at hz;subst hz;exact one_slV _) |>.trans (by simp [celP,cells_slV])
theorem setP2 {h1:AH} {q:Nat} {m c r:List Lang.Stmt} {cs ps:Bool} {pt:Lang.Expr} {m':List Lang.Stmt} (X:h1.get q=some (.cells (celP ⟨m,c,r,cs,ps,pt⟩).toArray 66 (0,0),none)):stN 1 h1 (.pointer (some ⟨q,1,none⟩)) (slV (encSs m'))=some (h1.put q (some (.cells (celP ⟨m,m',r,cs,ps,pt⟩).toArray 66 (0,0),none))) :=
 stN_mid (a:=[slV (encSs m)]) (b:=[slV (encSs c)]) (c:=[slV (encSs r),.bool cs,.bool ps]++celE pt) (v:=slV (encSs m')) (by simpa [celP] using X) rfl rfl (by rw [cells_slV];rfl) (fun z hz=>by rw [cells_slV] at hz;simp at hz;subst hz;exact one_slV _) |>.trans (by simp [celP,cells_slV])
theorem setP3 {h1:AH} {q:Nat} {m c r:List Lang.Stmt} {cs ps:Bool} {pt:Lang.Expr} {m':List Lang.Stmt} (X:h1.get q=some (.cells (celP ⟨m,c,r,cs,ps,pt⟩).toArray 66 (0,0),none)):stN 1 h1 (.pointer (some ⟨q,2,none⟩)) (slV (encSs m'))=some (h1.put q (some (.cells (celP ⟨m,c,m',cs,ps,pt⟩).toArray 66 (0,0),none))) :=
 stN_mid (a:=[slV (encSs m),slV (encSs c)]) (b:=[slV (encSs r)]) (c:=[.bool cs,.bool ps]++celE pt) (v:=slV (encSs m')) (by simpa [celP] using X) rfl rfl (by rw [cells_slV];rfl) (fun z hz=>by rw [cells_slV] at hz;simp at hz;subst hz;exact one_slV _) |>.trans (by simp [celP,cells_slV])
theorem setP4 {h1:AH} {q:Nat} {m c r:List Lang.Stmt} {cs ps:Bool} {pt:Lang.Expr} (X:h1.get q=some (.cells (celP ⟨m,c,r,cs,ps,pt⟩).toArray 66 (0,0),none)):stN 1 h1 (.pointer (some ⟨q,3,none⟩)) (.bool true)=some (h1.put q (some (.cells (celP ⟨m,c,r,true,ps,pt⟩).toArray 66 (0,0),none))) :=
 stN_mid (a:=[slV (encSs m),slV (encSs c),slV (encSs r)]) (b:=[.bool cs]) (c:=[.bool ps]++celE pt) (v:=.bool true) (by simpa [celP] using X) rfl rfl rfl (fun z hz=>by simp [Value.cells] at hz;subst hz;rfl) |>.trans (by simp [celP,Value.cells])
theorem setP5 {h1:AH} {q:Nat} {m c r:List Lang.Stmt} {cs ps:Bool} {pt:Lang.Expr} (X:h1.get q=some (.cells (celP ⟨m,c,r,cs,ps,pt⟩).toArray 66 (0,0),none)):stN 1 h1 (.pointer (some ⟨q,4,none⟩)) (.bool true)=some (h1.put q (some (.cells (celP ⟨m,c,r,cs,true,pt⟩).toArray 66 (0,0),none))) :=
 stN_mid (a:=[slV (encSs m),slV (encSs c),slV (encSs r),.bool cs]) (b:=[.bool ps]) (c:=celE pt) (v:=.bool true) (by simpa [celP] using X) rfl rfl rfl (fun z hz=>by simp [Value.cells] at hz;subst hz;rfl) |>.trans (by simp [celP,Value.cells])
theorem setP6 {h1:AH} {q:Nat} {m c r:List Lang.Stmt} {cs ps:Bool} {pt a':Lang.Expr} (X:h1.get q=some (.cells (celP ⟨m,c,r,cs,ps,pt⟩).toArray 66 (0,0),none)):stN 5 h1 (.pointer (some ⟨q,5,none⟩)) (encE a')=some (h1.put q (some (.cells (celP ⟨m,c,r,cs,ps,a'⟩).toArray 66 (0,0),none))) :=
 stN_mid (a:=[slV (encSs m),slV (encSs c),slV (encSs r),.bool cs,.bool ps]) (b:=celE pt) (c:=[]) (v:=encE a') (by simpa [celP] using X) rfl (celE_len pt) (by rw [encE_cells];simp [celE_len]) (fun z hz=>celE_one a' z (by rw [encE_cells] at hz;simpa using hz)) |>.trans (by simp [celP,encE_cells])
theorem prog_end {h h1:AH} {kp:Nat} {e:Tok} {bv:Value} {p:Lang.Prog} {ts:List Tok} {rs:R Lang.Prog} {ow:Bool} {vs:List Var} (S:PSg ow h1 kp e ts bv vs 0 0 0) (hne:ts ≠ []) (out:h1.get (h.size + 1)=some (.cells (celP p).toArray 66 (0,0),none)) (hs:h.size + 2 ≤ h1.size) (A:Adv kp h h1) (hlt:kp < h.size)
  (hrs:rs=match Lang.want 0 empty ts with | .error f=>.error f | .ok _=>.ok p):K17_17 (.pointer (some ⟨kp,0,none⟩)) (.pointer (some ⟨h.size + 1,0,none⟩)) h1 (PPost kp h rs):=by
 refine X17_17_ok ?_
 unfold X17_17
 simp (disch:=(first | exact dz | fail)) only [SXB,SX,reduceIte,Int.reduceLT,Int.reduceLE,Int.reduceToNat,Int.reduceBEq,Int.reduceBNe,Nat.reduceAdd,Nat.reduceMul,Nat.reduceSub,Nat.reduceLeDiff]
 refine want_ok S hne 0 empty (fun ts2 h2 hw S2 a2=>?_) fun f hw=>?_
 ·rw [hw] at hrs
  simp only at hrs
  simp (disch:=(first | exact dz | fail)) only [SXB,SX,reduceIte,Int.reduceLT,Int.reduceLE,Int.reduceToNat,Int.reduceBEq,Int.reduceBNe,Nat.reduceAdd,Nat.reduceMul,Nat.reduceSub,Nat.reduceLeDiff]
  rw [hrs]
  exact ⟨rfl,(a2.get _ (by omega) (by omega)).trans out,Nat.le_trans hs a2.size,A.trans a2⟩
 ·rw [hw] at hrs
  simp (disch:=(first | exact dz | fail)) only [SXB,SX,reduceIte,Int.reduceLT,Int.reduceLE,Int.reduceToNat,Int.reduceBEq,Int.reduceBNe,Nat.reduceAdd,Nat.reduceMul,Nat.reduceSub,Nat.reduceLeDiff]
  exact .err hrs A
end Go.Proofs.YtibigfkeaemanaaGreatDoor.L
end
section
namespace Go.Proofs.YtibigfkeaemanaaGreatDoor.L
open Go.Ab Go.Lang Go.Proofs.YtibigfkeaemanaaGreatDoor.X
set_option maxRecDepth 100000
theorem manyV_ok:VsOK manyV:=fun v hv=>by
 simp [manyV] at hv
 rcases hv with rfl | rfl <;> decide
theorem PR.src {h h1 h':AH} {kp:Nat} {e:Tok} {bv:Value} {p:Lang.Prog} {ts:List Tok} (x:PR h h1 kp e bv p ts) (A:Adv kp h1 h'):Src h' 2 (.slice (some ⟨h.size,0,none⟩) 2 2) (manyV.map encV):=by
 have hs:=x.size
 have hlt:=x.lt
 refine Src.row (k:=h.size) (off:=0) (m:=manyV.map encV) ((A.get _ (by omega) (by omega)).trans x.many) (fun v hv=>encVs_size _ v hv) (by simp [manyV]) ?_
 simp [manyV,encV,flatC,Value.cells,kT,kL]
theorem reduce_ok {h h1:AH} {kp:Nat} {e:Tok} {bv:Value} {p:Lang.Prog} {ts:List Tok} {rs:R Lang.Prog} (x:PR h h1 kp e bv p ts) (hsz:ts.length ≤ 90000) (hrs:rs=reduceF p ts) :
  K17_9 (.pointer (some ⟨kp,0,none⟩)) (.slice (some ⟨h.size,0,none⟩) 2 2) (.pointer (some ⟨h.size + 1,0,none⟩)) h1 (PPost kp h rs):=by
 refine X17_9_ok ?_
 unfold X17_9
 unfold reduceF at hrs
 obtain ⟨m,c,r,cs,ps,pt⟩:=p
 generalize hs1:stN 1=s1
 generalize hs5:stN 5=s5
 simp (disch:=(first | exact dz | fail)) only [SXB,SX,reduceIte,Int.reduceLT,Int.reduceLE,Int.reduceToNat,Int.reduceBEq,Int.reduceBNe,Nat.reduceAdd,Nat.reduceMul,Nat.reduceSub,Nat.reduceLeDiff]
 subst hs1 hs5
 refine x.want 1 wReduce (by omega) (fun ts2 h2 hw x2 l2=>?_) (fun f hw A=>?_)
 ·rw [hw] at hrs
  simp only at hrs
  simp only [RK,Nat.reduceAdd]
  refine x2.block (more:=manyV) manyV_ok (by simp [manyV];omega) (fun h' A=>x2.src A) (fun ss ts3 h3 bv3 hb x3 l3=>?_) (fun f h3 hb A=>?_)
  ·rw [hb] at hrs
   simp only at hrs
   simp only [RK,Nat.reduceAdd]
   refine bq_of (setP3 x3.out) ?_
   have x4:=x3.set (p':=⟨m,c,ss,cs,ps,pt⟩)
   refine HC.exact (is_ok x4.S x4.ok.ne 1 wPart) ?_
   unfold partF partE at hrs
   cases hpt:isT ts3 1 wPart with
   | false =>
    rw [hpt] at hrs
    simp only [Bool.false_eq_true,if_false] at hrs
    simp (disch:=(first | exact dz | fail)) only [SXB,SX,reduceIte,Int.reduceLT,Int.reduceLE,Int.reduceToNat,Int.reduceBEq,Int.reduceBNe,Nat.reduceAdd,Nat.reduceMul,Nat.reduceSub,Nat.reduceLeDiff]
    exact prog_end x4.S x4.ok.ne x4.out x4.size x4.A x4.lt hrs
   | true =>
    rw [hpt] at hrs
    simp only [if_true] at hrs
    generalize hs1:stN 1=s1
    generalize hs5:stN 5=s5
    simp (disch:=(first | exact dz | fail)) only [SXB,SX,reduceIte,Int.reduceLT,Int.reduceLE,Int.reduceToNat,Int.reduceBEq,Int.reduceBNe,Nat.reduceAdd,Nat.reduceMul,Nat.reduceSub,Nat.reduceLeDiff]
    subst hs1 hs5
    obtain ⟨u,ts4,hts,hu4⟩:∃ u r,ts3=u::r∧u.cls ≠ 0:=by
     cases ts3 with
     | nil=>exact absurd rfl x4.ok.ne
     | cons u r =>
      refine ⟨u,r,rfl,fun h0=>?_⟩
      simp [isT,h0] at hpt
    subst hts
    refine PR.take x4 hu4 fun h4 v x5=>?_
    simp only [RK,Nat.reduceAdd]
    refine bq_of (setP5 x5.out) ?_
    have x6:=x5.set (p':=⟨m,c,ss,cs,true,pt⟩)
    have hs6:=x6.size
    have hlt:=x6.lt
    have hk:=x6.L.kp
    rw [List.tail_cons] at hrs
    generalize h4.put (h.size + 1) (some (.cells (celP ⟨m,c,ss,cs,true,pt⟩).toArray 66 (0,0),none))=h5 at x6 hs6 ⊢
    have vok:VsOK [(wKey,kT),(wParts,kN)]:=fun v hv=>by
     simp at hv
     rcases hv with rfl | rfl <;> decide
    have gk:(h5.push (.cells #[.string ⟨#[107,101,121]⟩,.int .u8 116,.string ⟨#[112,97,114,116,115]⟩,.int .u8 110] 86 (0,0)) none).get kp=some (.cells ([tokV e ts4]++([bv3]++[Value.int .i64 (0:Nat),Value.int .i64 (0:Nat),Value.int .i64 (0:Nat)])).toArray 58 (0,0),none):=(get_push_ne (by omega)).trans x6.S.row
    refine bq_of (x:=(h5.push (.cells #[.string ⟨#[107,101,121]⟩,.int .u8 116,.string ⟨#[112,97,114,116,115]⟩,.int .u8 110] 86 (0,0)) none).put kp (prow (tokV e ts4) (.slice (some ⟨h5.size,0,none⟩) 2 2) 0 0 0)) ((stN_mid (v:=.slice (some ⟨h5.size,0,none⟩) 2 2) gk rfl rfl rfl (fun z hz=>by simp [Value.cells] at hz;subst hz;rfl)).trans (by simp [Value.cells,prow])) ?_
    have A7:Adv kp h5 ((h5.push (.cells #[.string ⟨#[107,101,121]⟩,.int .u8 116,.string ⟨#[112,97,114,116,115]⟩,.int .u8 110] 86 (0,0)) none).put kp (prow (tokV e ts4) (.slice (some ⟨h5.size,0,none⟩) 2 2) 0 0 0)):=by (repeat (first | exact Adv.refl _ _ | assumption | refine Adv.push ?_ _ _ | refine Adv.put ?_ _ _ (by first | exact .inl rfl | (right;first | omega | (simp only [sz_push,sz_put];omega)))))
    have S7:PSg false ((h5.push (.cells #[.string ⟨#[107,101,121]⟩,.int .u8 116,.string ⟨#[112,97,114,116,115]⟩,.int .u8 110] 86 (0,0)) none).put kp (prow (tokV e ts4) (.slice (some ⟨h5.size,0,none⟩) 2 2) 0 0 0)) kp e ts4 (.slice (some ⟨h5.size,0,none⟩) 2 2) [(wKey,kT),(wParts,kN)] 0 0 0:=by
     refine ⟨get_put_eq rfl,?_,fun q=>by have:h5.size=kp:=Option.some.inj q;omega,by simp;omega,fun k q=>by have:h5.size=k:=Option.some.inj q;simp;omega⟩
     exact Lit.mk (l:=[encV (wKey,kT),encV (wParts,kN)]) ((get_put_ne (by omega)).trans (get_push_eq rfl)) (by simp [encV,flatC,Value.cells,kT,kN,wKey,wParts])
    have G7:=x6.G.adv A7 hk
    have HE:ExprOK false kp e (.slice (some ⟨h5.size,0,none⟩) 2 2) [(wKey,kT),(wParts,kN)] 0 0 0 (expr0 [(wKey,kT),(wParts,kN)]) ts4:=expr_ok ts4.length hk (by omega) vok (by simp) x5.ok (Nat.le_refl _)
    refine of_ok HE (expr0_ok vok) x5.ok S7 G7 110 (fun a ts5 h8 hof S8 a8=>?_) (fun f h8 hof p a8=>?_)
    ·change ofK (expr0 [(wKey,kT),(wParts,kN)]) kN ts4=_ at hof
     rw [hof] at hrs
     simp only at hrs
     have sh:=ofK_shr (expr0_ok vok) x5.ok hof
     have A8:=A7.trans a8
     have o8:=(A8.get _ (by omega) (by omega)).trans x6.out
     simp only [RK,Nat.reduceAdd]
     refine bq_of (setP6 o8) ?_
     have hs8:=A8.size
     have S9:PSg false (h8.put (h.size + 1) (some (.cells (celP ⟨m,c,ss,cs,true,a⟩).toArray 66 (0,0),none))) kp e ts5 (.slice (some ⟨h5.size,0,none⟩) 2 2) [(wKey,kT),(wParts,kN)] 0 0 0:=by
      refine ⟨by rw [get_put_ne (by omega)];exact S8.row,S8.own.mono fun k q=>?_,S8.ne,S8.lt,S8.ltb⟩
      have:h5.size=k:=Option.some.inj q
      exact get_put_ne (by omega)
     refine want_ok S9 sh.1.ne 4 mSemi (fun ts6 h9 hw S10 a10=>?_) fun f hw=>?_
     ·rw [hw] at hrs
      simp only at hrs
      simp only [RK,Nat.reduceAdd]
      have sh2:=want_shr hw (by omega) sh.1
      refine prog_end S10 sh2.1.ne ((a10.get _ (by simp;omega) (by omega)).trans (get_put_eq rfl)) ?_ ?_ hlt hrs
      ·have:=a10.size;simp at this;omega
      ·exact ((x6.A.trans A8).put _ _ (.inr (by omega))).trans a10
     ·rw [hw] at hrs
      simp only [resK_pan]
      exact .err hrs ((x6.A.trans A8).put _ _ (.inr (by omega)))
    ·change ofK (expr0 [(wKey,kT),(wParts,kN)]) kN ts4=_ at hof
     rw [hof] at hrs
     simp only [resK_pan]
     exact .err hrs (x6.A.trans (A7.trans a8))
  ·rw [hb] at hrs
   simp only [resK_pan]
   exact .err hrs A
 ·rw [hw] at hrs
  simp only [resK_pan]
  exact .err hrs A
theorem program_ok {h:AH} {kp:Nat} {e:Tok} {ts:List Tok} (S:PS h kp e ts (.slice none 0 0) [] 0 0 0) (hk:10 ≤ kp) (G:Glob h) (ok:TokOK ts) (hsz:ts.length ≤ 90000):HC Tryz.prog 17 [.pointer (some ⟨kp,0,none⟩)].toArray h (PPost kp h (programF ts)):=by
 refine X17_ok ?_
 unfold X17
 have hlt:=S.lt
 generalize hrs:programF ts=rs
 replace hrs:=hrs.symm
 unfold programF at hrs
 generalize hs1:stN 1=s1
 simp (disch:=(first | exact dz | fail)) only [SXB,SX,reduceIte,Int.reduceLT,Int.reduceLE,Int.reduceToNat,Int.reduceBEq,Int.reduceBNe,Nat.reduceAdd,Nat.reduceMul,Nat.reduceSub,Nat.reduceLeDiff]
 subst hs1
 have x0:PR h ((h.push (.cells #[.string wKey,.int .u8 116,.string wValues,.int .u8 108] 86 (0,0)) none).push (.cells (celP ⟨[],[],[],false,false,.zero⟩).toArray 66 (0,0)) none) kp e (.slice none 0 0) ⟨[],[],[],false,false,.zero⟩ ts:=by
  refine ⟨?_,?_,by simp,S.same (by (repeat (first | exact Kp.refl _ _ | assumption | refine Kp.push ?_ _ _ (by first | omega | (simp only [sz_push,sz_put];omega)) | refine Kp.put ?_ _ _ (by first | omega | (simp only [sz_push,sz_put];omega))))),by (repeat (first | exact Adv.refl _ _ | assumption | refine Adv.push ?_ _ _ | refine Adv.put ?_ _ _ (by first | exact .inl rfl | (right;first | omega | (simp only [sz_push,sz_put];omega))))),fun k hk=>(nomatch hk),ok,G.adv (kp:=kp) (by (repeat (first | exact Adv.refl _ _ | assumption | refine Adv.push ?_ _ _ | refine Adv.put ?_ _ _ (by first | exact .inl rfl | (right;first | omega | (simp only [sz_push,sz_put];omega)))))) hk,⟨hk,fun k hk=>(nomatch hk)⟩,hlt⟩
  ·rw [get_push_ne (by simp)];exact get_push_eq rfl
  ·exact get_push_eq (by simp)
 refine PR.want x0 1 wMap (by omega) (fun ts2 h2 hw x2 l2=>?_) (fun f hw A=>?_)
 ·rw [hw] at hrs
  simp only at hrs
  simp only [RK,Nat.reduceAdd]
  have y2:PR h (h2.push (.cells #[.string wKey,.int .u8 116,.string wValue,.int .u8 116] 86 (0,0)) none) kp e (.slice none 0 0) ⟨[],[],[],false,false,.zero⟩ ts2:=x2.adv (x2.S.push _ _) (.push (.refl _ _) _ _) x2.ok
  have hlt2:=x2.S.lt
  refine PR.block y2 (more:=[(wKey,kT),(wValue,kT)]) (fun v hv=>by simp at hv;rcases hv with rfl | rfl <;> decide) (by simp;omega) (fun h' A=>?_) (fun ss ts3 h3 bv3 hb x3 l3=>?_) (fun f h3 hb A=>?_)
  ·refine Src.row (k:=h2.size) (off:=0) (m:=[(wKey,kT),(wValue,kT)].map encV) ((A.get _ (by simp) (by omega)).trans (get_push_eq rfl)) (fun v hv=>encVs_size _ v hv) (by simp) ?_
   simp [encV,flatC,Value.cells,kT]
  ·rw [hb] at hrs
   simp only at hrs
   simp only [RK,Nat.reduceAdd]
   refine bq_of (setP1 x3.out) ?_
   have x4:=x3.set (p':=⟨ss,[],[],false,false,.zero⟩)
   refine HC.exact (is_ok x4.S x4.ok.ne 1 wCombine) ?_
   cases hpt:isT ts3 1 wCombine with
   | false =>
    rw [hpt] at hrs
    simp only [Bool.false_eq_true,if_false] at hrs
    simp (disch:=(first | exact dz | fail)) only [SXB,SX,reduceIte,Int.reduceLT,Int.reduceLE,Int.reduceToNat,Int.reduceBEq,Int.reduceBNe,Nat.reduceAdd,Nat.reduceMul,Nat.reduceSub,Nat.reduceLeDiff]
    exact reduce_ok x4 (by omega) hrs
   | true =>
    rw [hpt] at hrs
    simp only [if_true] at hrs
    generalize hs1:stN 1=s1
    simp (disch:=(first | exact dz | fail)) only [SXB,SX,reduceIte,Int.reduceLT,Int.reduceLE,Int.reduceToNat,Int.reduceBEq,Int.reduceBNe,Nat.reduceAdd,Nat.reduceMul,Nat.reduceSub,Nat.reduceLeDiff]
    subst hs1
    obtain ⟨u,ts4,hts,hu4⟩:∃ u r,ts3=u::r∧u.cls ≠ 0:=by
     cases ts3 with
     | nil=>exact absurd rfl x4.ok.ne
     | cons u r =>
      refine ⟨u,r,rfl,fun h0=>?_⟩
      simp [isT,h0] at hpt
    subst hts
    rw [List.tail_cons] at hrs
    simp at l3
    refine PR.take x4 hu4 fun h4 v x5=>?_
    simp only [RK,Nat.reduceAdd]
    refine bq_of (setP4 x5.out) ?_
    have x6:=x5.set (p':=⟨ss,[],[],true,false,.zero⟩)
    refine PR.block x6 (more:=manyV) manyV_ok (by simp [manyV];omega) (fun h' A=>x6.src A) (fun ss2 ts5 h5 bv5 hb x7 l7=>?_) (fun f h5 hb A=>?_)
    ·rw [hb] at hrs
     simp only at hrs
     simp only [RK,Nat.reduceAdd]
     refine bq_of (setP2 x7.out) ?_
     exact reduce_ok (x7.set (p':=⟨ss,ss2,[],true,false,.zero⟩)) (by omega) hrs
    ·rw [hb] at hrs
     simp only [resK_pan]
     exact .err hrs A
  ·rw [hb] at hrs
   simp only [resK_pan]
   exact .err hrs A
 ·rw [hw] at hrs
  simp only [resK_pan]
  exact .err hrs A
end Go.Proofs.YtibigfkeaemanaaGreatDoor.L
end
