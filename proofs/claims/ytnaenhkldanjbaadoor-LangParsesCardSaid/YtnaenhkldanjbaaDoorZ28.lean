import Derived.Test.YtnaenhkldanjbaaDoorZ27
set_option linter.unusedVariables false
set_option linter.unusedSimpArgs false
section
namespace Go.Proofs.YtnaenhkldanjbaaDoor.L
open Go.Ab Go.Lang Go.Proofs.YtnaenhkldanjbaaDoor.X
set_option maxRecDepth 100000
theorem block_tail {kp n:Nat} {e:Tok} {b l:Nat} {loop:Bool} {bv mv:Value} {vs more:List Var} {ts:List Tok} {h:AH} (hb:b ≤ 8) (hl:l ≤ 2) (hchk:isT ts 4 mLb=true→b < 8∧(loop=true→l < 2))
  (HS:b < 8→(loop=true→l < 2)→∀ m,m < n→StmtOK kp e (b + 1) (if loop then l + 1 else l) (blockG (stmtsF m) (b + 1) (if loop then l + 1 else l)) (m + 1))
  (ok:TokOK ts) (hn:ts.length ≤ n) (hv:VsOK vs) (hm:VsOK more) (hsz:vs.length + more.length + ts.length ≤ 100000) (S:PS h kp e ts bv vs b l 0) (L:LoG 2 kp bv) (G:Glob h) (hsrc:∀ h',Adv kp h h'→Src h' 2 mv (more.map encV)) :
  K25_6 (.pointer (some ⟨kp,0,none⟩)) mv (.int .i64 (if loop then 1 else 0)) h (QG (BPost kp e bv vs b l h (blockG (stmtsF n) b l loop (vs++more) ts))):=by
 refine X25_6_ok ?_
 unfold X25_6
 have hlt:=S.lt
 have hspec:blockG (stmtsF n) b l loop (vs++more) ts=match Lang.want 4 mLb ts with
   | .error f=>.error f
   | .ok ts=>stmtsF n (b + 1) (if loop then l + 1 else l) (vs++more) ts:=by
  unfold blockG
  rw [if_neg]
  ·rfl
  ·intro hh
   simp only [Bool.and_eq_true,Bool.or_eq_true,decide_eq_true_eq] at hh
   have:=hchk hh.1
   rcases hh.2 with h | h
   ·omega
   ·have:=this.2 h.1;omega
 simp (disch:=(first | exact dz | fail)) only [SXB,SX,reduceIte,Int.reduceLT,Int.reduceLE,Int.reduceToNat,Int.reduceBEq,Int.reduceBNe,Nat.reduceAdd,Nat.reduceMul,Nat.reduceSub,Nat.reduceLeDiff]
 refine want_ok S ok.ne 4 mLb (fun ts2 h2 hw S2 a2=>?_) (fun f hw=>?_)
 ·have hsh:=want_shr hw (by omega) ok
  have hlb:isT ts 4 mLb=true:=by
   unfold Lang.want at hw
   split at hw
   ·assumption
   ·cases hw
  obtain ⟨hb8,hl2⟩:=hchk hlb
  rw [hw] at hspec
  simp only at hspec
  have gk:=S2.row
  unfold prow at gk
  have ew:IntKind.i64.wrap ((b:Int) + 1)=((b + 1:Nat):Int):=by rw [wrap64 (by omega) (by omega)];omega
  have el:IntKind.i64.wrap ((l:Int) + (if loop then 1 else 0))=(((if loop then l + 1 else l):Nat):Int):=by
   cases loop
   ·simp only [Bool.false_eq_true,if_false];rw [wrap64 (by omega) (by omega)];omega
   ·simp only [if_true];rw [wrap64 (by omega) (by omega)];omega
  obtain ⟨x1,x2,x3,rfl⟩:=S2.own.isSl
  have elen:=S2.own.len
  rw [List.length_map] at elen
  simp (disch:=(first | exact dz | fail)) only [gk,ew,el,elen,SXB,SX,reduceIte,Int.reduceLT,Int.reduceLE,Int.reduceToNat,Int.reduceBEq,Int.reduceBNe,Nat.reduceAdd,Nat.reduceMul,Nat.reduceSub,Nat.reduceLeDiff]
  have O:Ab.Own 84 2 ((h2.put kp (prow (tokV e ts2) (.slice x1 x2 x3) (b + 1) l 0)).put kp (prow (tokV e ts2) (.slice x1 x2 x3) (b + 1) (if loop then l + 1 else l) 0)) (.slice x1 x2 x3) (vs.map encV):=S2.own.mono fun k hk=>by
   rw [get_put_ne (fun e=>S2.ne (by rw [hk,e])),get_put_ne (fun e=>S2.ne (by rw [hk,e]))]
  obtain ⟨s',h3,q1,q2,q3,q4,q5⟩:=O.append (bytes:=24) (zero:=.agg #[.string ⟨#[]⟩,.int .u8 0]) (hsrc _ (by (repeat (first | exact Adv.refl _ _ | assumption | refine Adv.push ?_ _ _ | refine Adv.put ?_ _ _ (by first | exact .inl rfl | (right;first | omega | (simp only [sz_push,sz_put];omega))))))) (encVs_size vs) (encVs_size more) (encVs_one more) (by omega) (by omega) (by omega) rfl (by simp only [List.length_map];omega)
  simp only [sz_put] at q3 q4 q5
  refine bq_of q1 ?_
  obtain ⟨y1,y2,y3,rfl⟩:=q2.isSl
  have gk3:h3.get kp=some (.cells #[tokV e ts2,.slice x1 x2 x3,.int .i64 (b + 1:Nat),.int .i64 ((if loop then l + 1 else l:Nat):Nat),.int .i64 (0:Nat)] 55 (0,0),none):=by
   rw [q4 kp S2.lt S2.ne,get_put_eq rfl]
   rfl
  simp (disch:=(first | exact dz | fail)) only [gk3,SXB,SX,reduceIte,Int.reduceLT,Int.reduceLE,Int.reduceToNat,Int.reduceBEq,Int.reduceBNe,Nat.reduceAdd,Nat.reduceMul,Nat.reduceSub,Nat.reduceLeDiff]
  have hbn:blkOf (.slice y1 y2 y3) ≠ some kp:=fun e=>by
   rcases q5 with h | ⟨k,h,h1,h2⟩
   ·exact S2.ne (h ▸ e)
   ·rw [h] at e;cases e;have:=S2.lt;omega
  have g4:∀ k,k < h2.size→k ≠ kp→blkOf (.slice x1 x2 x3) ≠ some k→(h3.put kp (prow (tokV e ts2) (.slice y1 y2 y3) (b + 1) (if loop then l + 1 else l) 0)).get k=h2.get k:=fun k h1 h2 h4=>by
   rw [get_put_ne h2,q4 k h1 h4,get_put_ne h2,get_put_ne h2]
  have A4:AdvB kp (.slice x1 x2 x3) h (h3.put kp (prow (tokV e ts2) (.slice y1 y2 y3) (b + 1) (if loop then l + 1 else l) 0)):=⟨by rw [sz_put];exact Nat.le_trans a2.size q3,fun k h1 h2 h4=>(g4 k (Nat.lt_of_lt_of_le h1 a2.size) h2 h4).trans (a2.get k h1 h2)⟩
  have S4:PS (h3.put kp (prow (tokV e ts2) (.slice y1 y2 y3) (b + 1) (if loop then l + 1 else l) 0)) kp e ts2 (.slice y1 y2 y3) (vs++more) (b + 1) (if loop then l + 1 else l) 0:=by
   refine ⟨get_put_eq rfl,?_,hbn,?_,fun k hk=>?_⟩
   ·rw [List.map_append]
    exact q2.mono fun k hk=>get_put_ne fun e=>hbn (by rw [hk,e])
   ·rw [sz_put];have:=S2.lt;omega
   ·rw [sz_put]
    rcases q5 with h | ⟨k',h,h1,h2⟩
    ·rw [h] at hk;have:=S2.ltb k hk;omega
    ·rw [h] at hk;cases hk;exact h2
  have B4:Bv h (.slice x1 x2 x3) (.slice y1 y2 y3):=fun k hk=>by
   rcases q5 with h | ⟨k',h,h1,h2⟩
   ·rw [h] at hk;exact .inl hk
   ·rw [h] at hk;cases hk;exact .inr (Nat.le_trans a2.size h1)
  have hlen:=hsh.2
  refine block_loop hb hl (HS hb8 hl2) L G hlt S.ltb n ts2 _ (vs++more) (.slice y1 y2 y3) (.slice none 0 0) [] (Nat.le_refl _) hsh.1 (by omega) (hv.append hm) ⟨more,rfl⟩ (by simp;omega) (by simp;omega) S4 A4 B4 .nil (fun k hk=>(nomatch hk)) (fun ss' ts3 h5 bv3 hr S5 B5 a5=>?_) (fun f h5 hr p5 a5=>?_)
  ·rw [hspec,hr]
   exact ⟨rfl,⟨bv3,S5,B5⟩,a5⟩
  ·rw [hspec,hr]
   exact ⟨rfl,p5,a5⟩
 ·rw [hw] at hspec
  simp only at hspec
  simp (disch:=(first | exact dz | fail)) only [SXB,SX,reduceIte,Int.reduceLT,Int.reduceLE,Int.reduceToNat,Int.reduceBEq,Int.reduceBNe,Nat.reduceAdd,Nat.reduceMul,Nat.reduceSub,Nat.reduceLeDiff]
  refine .inr ?_
  rw [hspec]
  exact ⟨rfl,S.pan,.refl _ _ _⟩
theorem block_mid {kp n:Nat} {e:Tok} {b l:Nat} {loop:Bool} {bv mv:Value} {vs more:List Var} {ts:List Tok} {h:AH} (hb:b ≤ 8) (hl:l ≤ 2)
  (HS:b < 8→(loop=true→l < 2)→∀ m,m < n→StmtOK kp e (b + 1) (if loop then l + 1 else l) (blockG (stmtsF m) (b + 1) (if loop then l + 1 else l)) (m + 1))
  (ok:TokOK ts) (hn:ts.length ≤ n) (hv:VsOK vs) (hm:VsOK more) (hsz:vs.length + more.length + ts.length ≤ 100000) (S:PS h kp e ts bv vs b l 0) (L:LoG 2 kp bv) (G:Glob h) (hsrc:∀ h',Adv kp h h'→Src h' 2 mv (more.map encV)) :
  K25_4 (.pointer (some ⟨kp,0,none⟩)) (.bool loop) mv (.int .i64 (if loop then 1 else 0)) h (QG (BPost kp e bv vs b l h (blockG (stmtsF n) b l loop (vs++more) ts))):=by
 refine X25_4_ok ?_
 unfold X25_4
 have hlt:=S.lt
 have gk:=S.row
 unfold prow at gk
 have bad:isT ts 4 mLb=true→(8 ≤ b ∨ (loop=true∧2 ≤ l))→BPost kp e bv vs b l h (blockG (stmtsF n) b l loop (vs++more) ts) (.pan (faultV (164,headAt ts))) h:=by
  intro h1 h2
  have:blockG (stmtsF n) b l loop (vs++more) ts=.error (164,headAt ts):=by
   unfold blockG
   rw [if_pos]
   simp only [h1,Bool.true_and,Bool.or_eq_true,Bool.and_eq_true,decide_eq_true_eq]
   exact h2
  rw [this]
  exact ⟨rfl,S.pan,.refl _ _ _⟩
 obtain ⟨u,r,hts,_⟩:=ok.head
 have hpk:Ex Tryd.prog 37 [.pointer (some ⟨kp,0,none⟩)].toArray h (encT u) h:=peek_ok (ow:=true) (r:=r) (hts ▸ S)
 have hat:headAt ts=u.at_:=by rw [hts];rfl
 rw [hat] at bad
 simp (disch:=(first | exact dz | fail)) only [SXB,SX,reduceIte,Int.reduceLT,Int.reduceLE,Int.reduceToNat,Int.reduceBEq,Int.reduceBNe,Nat.reduceAdd,Nat.reduceMul,Nat.reduceSub,Nat.reduceLeDiff]
 refine HC.exact (is_ok S ok.ne 4 mLb) ?_
 cases hlb:isT ts 4 mLb with
 | false =>
  simp (disch:=(first | exact dz | fail)) only [SXB,SX,reduceIte,Int.reduceLT,Int.reduceLE,Int.reduceToNat,Int.reduceBEq,Int.reduceBNe,Nat.reduceAdd,Nat.reduceMul,Nat.reduceSub,Nat.reduceLeDiff]
  exact block_tail hb hl (fun h=>by rw [hlb] at h;cases h) HS ok hn hv hm hsz S L G hsrc
 | true =>
  by_cases h8:8 ≤ b
  ·have e1:(8:Int) ≤ (b:Int):=by omega
   simp (disch:=(first | exact dz | fail)) only [gk,e1,SXB,SX,reduceIte,Int.reduceLT,Int.reduceLE,Int.reduceToNat,Int.reduceBEq,Int.reduceBNe,Nat.reduceAdd,Nat.reduceMul,Nat.reduceSub,Nat.reduceLeDiff]
   refine HC.exact hpk ?_
   simp (disch:=(first | exact dz | fail)) only [encT,SXB,SX,reduceIte,Int.reduceLT,Int.reduceLE,Int.reduceToNat,Int.reduceBEq,Int.reduceBNe,Nat.reduceAdd,Nat.reduceMul,Nat.reduceSub,Nat.reduceLeDiff]
   refine fail_ok (k:=164) ?_
   simp (disch:=(first | exact dz | fail)) only [SXB,SX,reduceIte,Int.reduceLT,Int.reduceLE,Int.reduceToNat,Int.reduceBEq,Int.reduceBNe,Nat.reduceAdd,Nat.reduceMul,Nat.reduceSub,Nat.reduceLeDiff]
   exact .inr (bad hlb (.inl h8))
  ·have e1:¬ ((8:Int) ≤ (b:Int)):=by omega
   cases loop with
   | false =>
    simp (disch:=(first | exact dz | fail)) only [gk,e1,SXB,SX,reduceIte,Int.reduceLT,Int.reduceLE,Int.reduceToNat,Int.reduceBEq,Int.reduceBNe,Nat.reduceAdd,Nat.reduceMul,Nat.reduceSub,Nat.reduceLeDiff]
    exact block_tail (loop:=false) hb hl (fun h=>⟨by omega,fun h=>nomatch h⟩) HS ok hn hv hm hsz S L G hsrc
   | true =>
    by_cases h2:2 ≤ l
    ·have e2:(2:Int) ≤ (l:Int):=by omega
     simp (disch:=(first | exact dz | fail)) only [gk,e1,e2,SXB,SX,reduceIte,Int.reduceLT,Int.reduceLE,Int.reduceToNat,Int.reduceBEq,Int.reduceBNe,Nat.reduceAdd,Nat.reduceMul,Nat.reduceSub,Nat.reduceLeDiff]
     refine HC.exact hpk ?_
     simp (disch:=(first | exact dz | fail)) only [encT,SXB,SX,reduceIte,Int.reduceLT,Int.reduceLE,Int.reduceToNat,Int.reduceBEq,Int.reduceBNe,Nat.reduceAdd,Nat.reduceMul,Nat.reduceSub,Nat.reduceLeDiff]
     refine fail_ok (k:=164) ?_
     simp (disch:=(first | exact dz | fail)) only [SXB,SX,reduceIte,Int.reduceLT,Int.reduceLE,Int.reduceToNat,Int.reduceBEq,Int.reduceBNe,Nat.reduceAdd,Nat.reduceMul,Nat.reduceSub,Nat.reduceLeDiff]
     exact .inr (bad hlb (.inr ⟨rfl,h2⟩))
    ·have e2:¬ ((2:Int) ≤ (l:Int)):=by omega
     simp (disch:=(first | exact dz | fail)) only [gk,e1,e2,SXB,SX,reduceIte,Int.reduceLT,Int.reduceLE,Int.reduceToNat,Int.reduceBEq,Int.reduceBNe,Nat.reduceAdd,Nat.reduceMul,Nat.reduceSub,Nat.reduceLeDiff]
     exact block_tail (loop:=true) hb hl (fun h=>⟨by omega,fun _=>by omega⟩) HS ok hn hv hm hsz S L G hsrc
theorem block_ok {kp n:Nat} {e:Tok} {b l:Nat} (hb:b ≤ 8) (hl:l ≤ 2)
  (HS:∀ loop,b < 8→(loop=true→l < 2)→∀ m,m < n→StmtOK kp e (b + 1) (if loop then l + 1 else l) (blockG (stmtsF m) (b + 1) (if loop then l + 1 else l)) (m + 1)):BlockOK kp e b l (blockG (stmtsF n) b l) n:=by
 intro loop bv mv vs more ts h ok hn hv hm hsz S L G hsrc
 refine HC.ghOr (X25_ok (Q:=QG (BPost kp e bv vs b l h (blockG (stmtsF n) b l loop (vs++more) ts))) ?_)
 unfold X25
 cases loop with
 | false =>
  simp (disch:=(first | exact dz | fail)) only [SXB,SX,reduceIte,Int.reduceLT,Int.reduceLE,Int.reduceToNat,Int.reduceBEq,Int.reduceBNe,Nat.reduceAdd,Nat.reduceMul,Nat.reduceSub,Nat.reduceLeDiff]
  exact block_mid (loop:=false) hb hl (HS false) ok hn hv hm hsz S L G hsrc
 | true =>
  simp (disch:=(first | exact dz | fail)) only [SXB,SX,reduceIte,Int.reduceLT,Int.reduceLE,Int.reduceToNat,Int.reduceBEq,Int.reduceBNe,Nat.reduceAdd,Nat.reduceMul,Nat.reduceSub,Nat.reduceLeDiff]
  exact block_mid (loop:=true) hb hl (HS true) ok hn hv hm hsz S L G hsrc
end Go.Proofs.YtnaenhkldanjbaaDoor.L
end
section
namespace Go.Proofs.YtnaenhkldanjbaaDoor.L
open Go.Ab Go.Lang Go.Proofs.YtnaenhkldanjbaaDoor.X
set_option maxRecDepth 100000
def lenS:LS→Nat
 | .ok ts=>ts.length
 | .error _=>0
theorem VsNZ.append {a b:List Var} (x:VsNZ a) (y:VsNZ b):VsNZ (a++b):=fun v hv=>(List.mem_append.1 hv).elim (x v) (y v)
abbrev BR:=R (List Lang.Stmt × List Tok)
abbrev SR:=R ((Lang.Stmt × List Var) × List Tok)
def BPostR (kp:Nat) (T:List Tok) (bv:Value) (vs:List Var) (b l:Nat) (h:AH) (rs:BR) (r:Res) (h':AH):Prop :=
 Adv kp h h'∧∃ i' bv' ss,r=.ret (slV (encSs ss))∧RS h' kp T i' (rs.map (·.2)) bv' vs b l 0∧(∀ k,blkOf bv' = some k→h.size ≤ k)∧∀ y r,rs=.ok (y,r)→y=ss
def SPostR (kp:Nat) (T:List Tok) (bv:Value) (vs:List Var) (b l:Nat) (h:AH) (rs:SR) (r:Res) (h':AH):Prop :=
 AdvB kp bv h h'∧∃ i' bv' s ex,r=.ret (encS s)∧RS h' kp T i' (rs.map (·.2)) bv' (vs++ex) b l 0∧Bv h bv bv'∧ex.length ≤ 1∧∀ y r,rs=.ok (y,r)→y=(s,vs++ex)
def loopN (loop:Bool):Nat:=if loop then 1 else 0
def blockS (blk:BlockRd) (loop:Bool) (vs:List Var):LS→BR
 | .ok ts=>blk loop vs ts
 | .error f=>.error f
def RBlockOK (kp:Nat) (T:List Tok) (b l:Nat) (blk:BlockRd) (M:Nat):Prop:=∀ (loop:Bool) (st:LS) (i:Nat) (bv mv:Value) (vs more:List Var) (h:AH),lenS st ≤ M→VsNZ vs→VsNZ more→vs.length + more.length + lenS st ≤ 100000→RS h kp T i st bv vs b l 0 →
 (∀ h',Adv kp h h'→Src h' 2 mv (more.map encV))→HC Tryd.prog 14 [.pointer (some ⟨kp,0,none⟩),.int .i64 (loopN loop:Nat),mv].toArray h (BPostR kp T bv vs b l h (blockS blk loop (vs++more) st))
def RStmtOK (kp:Nat) (T:List Tok) (b l:Nat) (blk:BlockRd) (M:Nat):Prop:=∀ (i:Nat) (bv:Value) (vs:List Var) (ts:List Tok) (h:AH),ts.length ≤ M→VsNZ vs→vs.length + ts.length ≤ 100000→RS h kp T i (.ok ts) bv vs b l 0 →
 HC Tryd.prog 31 [.pointer (some ⟨kp,0,none⟩)].toArray h (SPostR kp T bv vs b l h (stmtF blk vs ts))
theorem sigs_ans:∀ s ∈ sigs,(s.ans[0]!).toNat ≠ 0:=by
 have:sigs.all (fun s=>(s.ans[0]!).toNat != 0)=true:=by kernel_rfl
 intro s hs
 have:=List.all_eq_true.1 this s hs
 simpa using this
theorem exprF_nz {vs:List Var} (hv:VsNZ vs):∀ {n c:Nat} {ts r:List Tok} {e:Lang.Expr} {k:Nat},exprF n c vs ts=.ok ((e,k),r)→k ≠ 0∧k < 256:=by
 intro n c ts r e k h
 cases n with
 | zero=>cases h
 | succ n =>
  cases ts with
  | nil=>cases h
  | cons t ts =>
   unfold exprF at h
   simp only at h
   split at h
   ·cases h;decide
   split at h
   ·cases h;decide
   split at h
   ·cases h
   ·rename_i t2 r2 hf
    split at h
    ·unfold callF at h
     split at h
     ·cases h
     ·split at h
      ·cases h
      ·rename_i s hs
       split at h
       ·cases h
       ·split at h
        ·cases h
        ·cases h
         exact ⟨sigs_ans s (findS_mem hs),UInt8.toNat_lt _⟩
    ·split at h
     ·rename_i k' hk
      cases h
      exact kindOf_nz hv hk
     ·cases h
theorem stmtF_nz {blk:BlockRd} {vs vs':List Var} {ts r:List Tok} {s:Lang.Stmt} (hv:VsNZ vs) (h:stmtF blk vs ts=.ok ((s,vs'),r)):VsNZ vs':=by
 unfold stmtF at h
 split at h
 ·cases h
 have mp:∀ {rs:R (Lang.Stmt × List Tok)},(rs.map fun p=>((p.1,vs),p.2))=.ok ((s,vs'),r)→vs' = vs:=fun {rs} h=>by
  cases rs with
  | error f=>cases h
  | ok y=>cases h;rfl
 split at h
 ·cases h
 split at h
 ·rw [mp h];exact hv
 split at h
 ·rename_i t r1 _ _ _
  cases hl:letF vs r1 with
  | error f=>rw [hl] at h;cases h
  | ok y =>
   obtain ⟨⟨s1,x,k⟩,r2⟩:=y
   rw [hl] at h
   cases h
   refine hv.append fun v hv'=>?_
   rw [List.mem_singleton.1 hv']
   unfold letF at hl
   split at hl
   ·cases hl
   split at hl
   ·cases hl
   split at hl
   ·cases hl
   ·rename_i hx
    split at hl
    ·cases hl
    ·cases hl
     exact exprF_nz hv hx
 split at h
 ·rw [mp h];exact hv
 split at h
 ·rw [mp h];exact hv
 split at h
 ·rw [mp h];exact hv
 ·cases h
def stmtsS (m b l:Nat) (vs:List Var):LS→BR
 | .ok ts=>stmtsF m b l vs ts
 | .error f=>.error f
theorem rblock_exit {h h1:AH} {kp i1:Nat} {T:List Tok} {bv bv1 sv:Value} {vs ex:List Var} {b l:Nat} {loop:Bool} {rs:BR} {st1:LS} {ss:List Lang.Stmt} (hb:b ≤ 8) (hl:l ≤ 2) (hlt:kp < h.size) (S:RS h1 kp T i1 st1 bv1 (vs++ex) (b + 1) (l + loopN loop) 0) (A:Adv kp h h1) (B:∀ k,blkOf bv1=some k→h.size ≤ k)
  (O:Hld 78 14 h1 h.size sv (encSs ss)) (sep:∀ k,blkOf sv=some k→k < h1.size∧blkOf bv1 ≠ some k) (hne:∀ ts,st1=.ok ts→ts.tail ≠ []) (h1s:rs.map (·.2)=tailS st1) (h2s:∀ y r,rs=.ok (y,r)→y=ss) :
  HC Tryd.prog 16 #[.pointer (some ⟨kp,0,none⟩)] h1 (resK
   (fun t85 h_1 =>
    bq ((rowC (h_1.get kp)).bind fun c=>c[3]?) fun t89=>bq (binV Tryd.prog .sub 3 (.tmp 89) (.const (.int .i64 1)) t89 (.int .i64 1) h_1) fun t90=>bq (if t90.cells.size=1 then setC h_1 kp 3 t90.cells (h_1.get kp) else none) fun h_2 =>
       bq ((rowC (h_2.get kp)).bind fun c=>c[4]?) fun t96=>bq (binV Tryd.prog .sub 3 (.tmp 96) (.tmp 97) t96 (.int .i64 (loopN loop:Nat)) h_2) fun t98=>bq (if t98.cells.size=1 then setC h_2 kp 4 t98.cells (h_2.get kp) else none) fun h_3 =>
          bq ((rowC (h_3.get kp)).bind fun c=>c[2]?) fun t105=>bq (sliceV Tryd.prog h_3 61 t105 none (some (.int .i64 (vs.length:Nat)))) fun t107=>bq (if t107.cells.size=1 then setC h_3 kp 2 t107.cells (h_3.get kp) else none) fun h_4 =>
             QG (BPostR kp T bv vs b l h rs) (.ret sv) h_4)
   fun v h_1=>QG (BPostR kp T bv vs b l h rs) (.pan v) h_1):=by
 refine rnext_ok S hne fun h2 i2 S2 a2=>?_
 have A2:=A.trans a2
 have hr:=S2.any
 have hlo:loopN loop ≤ 1:=by cases loop <;> decide
 have ew:IntKind.i64.wrap (((b + 1:Nat):Int) - 1)=(b:Int):=by rw [wrap64 (by omega) (by omega)];omega
 have el:IntKind.i64.wrap (((l + loopN loop:Nat):Int) - ((loopN loop:Nat):Int))=(l:Int):=by rw [wrap64 (by omega) (by omega)];omega
 generalize her:erOf (tailS st1)=er at hr
 simp (disch:=(first | exact dz | fail)) only [hr,ew,el,SXB,SX,reduceIte,Int.reduceLT,Int.reduceLE,Int.reduceToNat,Int.reduceBEq,Int.reduceBNe,Nat.reduceAdd,Nat.reduceMul,Nat.reduceSub,Nat.reduceLeDiff]
 have hu:(Tryd.prog).underlying 61=some (.slice 65):=by kernel_rfl
 have hi:∃ d,(Tryd.prog).info? 65=some d∧d.size=2:=⟨_,rfl,by kernel_rfl⟩
 obtain ⟨d,hd,hds⟩:=hi
 have O2:Ab.Own 65 2 ((h2.put kp (rrow T i2 bv1 b (l + loopN loop) 0 er)).put kp (rrow T i2 bv1 b l 0 er)) bv1 ((vs++ex).map encV):=S2.own.mono fun k hk=>by
  have:k ≠ kp:=fun e=>S2.ne (by rw [hk,e])
  rw [get_put_ne this,get_put_ne this]
 obtain ⟨v',c1,c2,c3⟩:=O2.cut hu hd hds (encVs_size _) (k:=vs.length) (by simp)
 refine bq_of c1 ?_
 obtain ⟨y1,y2,y3,rfl⟩:=c2.isSl
 simp (disch:=(first | exact dz | fail)) only [SXB,SX,reduceIte,Int.reduceLT,Int.reduceLE,Int.reduceToNat,Int.reduceBEq,Int.reduceBNe,Nat.reduceAdd,Nat.reduceMul,Nat.reduceSub,Nat.reduceLeDiff]
 have c2:Ab.Own 65 2 ((h2.put kp (rrow T i2 bv1 b (l + loopN loop) 0 er)).put kp (rrow T i2 bv1 b l 0 er)) (.slice y1 y2 y3) (vs.map encV):=by simpa using c2
 have hbk:blkOf (.slice y1 y2 y3) ≠ some kp:=by rw [c3];exact S2.ne
 have S3:RS (((h2.put kp (rrow T i2 bv1 b (l + loopN loop) 0 er)).put kp (rrow T i2 bv1 b l 0 er)).put kp (rrow T i2 (.slice y1 y2 y3) b l 0 er)) kp T i2 (rs.map (·.2)) (.slice y1 y2 y3) vs b l 0 :=
  ⟨by rw [h1s,her];exact get_put_eq rfl,c2.mono fun k hk=>get_put_ne fun e=>hbk (by rw [hk,e]),hbk,by simpa using S2.lt,fun k hk=>by rw [c3] at hk;simpa using S2.ltb k hk,S2.ilt,S2.ok,S2.len,by rw [h1s];exact S2.at_⟩
 have A3:Adv kp h (((h2.put kp (rrow T i2 bv1 b (l + loopN loop) 0 er)).put kp (rrow T i2 bv1 b l 0 er)).put kp (rrow T i2 (.slice y1 y2 y3) b l 0 er)):=((A2.put _ _ (.inl rfl)).put _ _ (.inl rfl)).put _ _ (.inl rfl)
 have hkey:∀ k,blkOf sv=some k→h.size ≤ k:=O.key
 have O3:Hld 78 14 (((h2.put kp (rrow T i2 bv1 b (l + loopN loop) 0 er)).put kp (rrow T i2 bv1 b l 0 er)).put kp (rrow T i2 (.slice y1 y2 y3) b l 0 er)) h.size sv (encSs ss):=O.mono fun k hk=>by
  have h3:=hkey k hk
  have h4:=(sep k hk).1
  rw [get_put_ne (by omega),get_put_ne (by omega),get_put_ne (by omega)]
  exact a2.get k h4 (by omega)
 change QG _ _ (((h2.put kp (rrow T i2 bv1 b (l + loopN loop) 0 er)).put kp (rrow T i2 bv1 b l 0 er)).put kp (rrow T i2 (.slice y1 y2 y3) b l 0 er))
 generalize (((h2.put kp (rrow T i2 bv1 b (l + loopN loop) 0 er)).put kp (rrow T i2 bv1 b l 0 er)).put kp (rrow T i2 (.slice y1 y2 y3) b l 0 er))=h3 at S3 A3 O3 ⊢
 obtain ⟨h4,gu,gf,gs⟩:=O3.turn (P:=Tryd.prog) (by omega) (encSs_size ss)
 refine .inl ⟨_,slV (encSs ss),h4,rfl,Gh.turn gu .here,⟨by rw [gs];exact A3.size,fun k h1 h2=>(gf k fun e=>?_).trans (A3.get k h1 h2)⟩,i2,_,ss,rfl,S3.frz gf gs (fun e=>?_) (fun k hk e=>?_),fun k hk=>B k (by rw [← c3];exact hk),h2s⟩
 ·have:=hkey k e;omega
 ·have:=hkey _ e;omega
 ·exact (sep k e).2 (by rw [← c3];exact hk)
theorem rblock_loop {h:AH} {kp n:Nat} {T:List Tok} {bv:Value} {vs:List Var} {b l:Nat} {loop:Bool} {rs:BR} (hb:b ≤ 8) (hl:l ≤ 2) (HS:∀ m,m < n→RStmtOK kp T (b + 1) (l + loopN loop) (blockG (stmtsF m) (b + 1) (l + loopN loop)) (m + 1)) (hlt:kp < h.size) :
  ∀ (m i1:Nat) (st1:LS) (h1:AH) (ex:List Var) (bv1 sv:Value) (ss:List Lang.Stmt),m ≤ n→lenS st1 ≤ m→(∀ ts,st1=.ok ts→VsNZ (vs++ex))→(vs++ex).length + lenS st1 ≤ 100000→ss.length + lenS st1 ≤ 100000 →
   RS h1 kp T i1 st1 bv1 (vs++ex) (b + 1) (l + loopN loop) 0→Adv kp h h1→(∀ k,blkOf bv1=some k→h.size ≤ k)→Hld 78 14 h1 h.size sv (encSs ss)→(∀ k,blkOf sv=some k→k < h1.size∧blkOf bv1 ≠ some k) →
   rs=(stmtsS m (b + 1) (l + loopN loop) (vs++ex) st1).map (fun y=>(ss++y.1,y.2)) →
   H14_11 (.pointer (some ⟨kp,0,none⟩)) (.int .i64 (loopN loop:Nat)) (.int .i64 vs.length) sv h1 (QG (BPostR kp T bv vs b l h rs)):=by
 intro m
 induction m with
 | zero =>
  intro i1 st1 h1 ex bv1 sv ss hm hn hnz hsz hsz2 S A B O sep hrs
  refine X14_11_ok ?_
  unfold X14_11
  cases st1 with
  | ok ts=>have:=S.okl.pos;have:ts.length ≤ 0:=hn;omega
  | error f =>
   obtain ⟨hr,e⟩:=S.dead
   simp (disch:=(first | exact dz | fail)) only [hr,e,SXB,SX,reduceIte,Int.reduceLT,Int.reduceLE,Int.reduceToNat,Int.reduceBEq,Int.reduceBNe,Nat.reduceAdd,Nat.reduceMul,Nat.reduceSub,Nat.reduceLeDiff]
   exact rblock_exit hb hl hlt S A B O sep (fun ts e=>nomatch e) (by rw [hrs];rfl) (fun y r e=>by rw [hrs] at e;cases e)
 | succ m ih =>
  intro i1 st1 h1 ex bv1 sv ss hm hn hnz hsz hsz2 S A B O sep hrs
  refine X14_11_ok ?_
  unfold X14_11
  cases st1 with
  | error f =>
   obtain ⟨hr,e⟩:=S.dead
   simp (disch:=(first | exact dz | fail)) only [hr,e,SXB,SX,reduceIte,Int.reduceLT,Int.reduceLE,Int.reduceToNat,Int.reduceBEq,Int.reduceBNe,Nat.reduceAdd,Nat.reduceMul,Nat.reduceSub,Nat.reduceLeDiff]
   exact rblock_exit hb hl hlt S A B O sep (fun ts e=>nomatch e) (by rw [hrs];rfl) (fun y r e=>by rw [hrs] at e;cases e)
  | ok ts =>
   have hr:=S.live
   have e0:((0:Int) == 0)=true:=rfl
   have ok:=S.okl
   simp (disch:=(first | exact dz | fail)) only [hr,e0,SXB,SX,reduceIte,Int.reduceLT,Int.reduceLE,Int.reduceToNat,Int.reduceBEq,Int.reduceBNe,Nat.reduceAdd,Nat.reduceMul,Nat.reduceSub,Nat.reduceLeDiff]
   refine HC.exact (risT S 4 mRb) ?_
   have ei:isS (.ok ts) 4 mRb=isT ts 4 mRb:=rfl
   rw [ei]
   have hspec:stmtsF (m + 1) (b + 1) (l + loopN loop) (vs++ex) ts=if isT ts 4 mRb then .ok ([],ts.tail) else match stmtF (blockG (stmtsF m) (b + 1) (l + loopN loop)) (vs++ex) ts with
    | .error f=>.error f
    | .ok ((s,vs),ts)=>match stmtsF m (b + 1) (l + loopN loop) vs ts with
     | .error f=>.error f
     | .ok (ss,ts)=>.ok (s::ss,ts):=rfl
   change rs=(stmtsF (m + 1) (b + 1) (l + loopN loop) (vs++ex) ts).map _ at hrs
   rw [hspec] at hrs
   cases hrb:isT ts 4 mRb with
   | true =>
    rw [hrb] at hrs
    simp only [if_true] at hrs
    simp (disch:=(first | exact dz | fail)) only [SXB,SX,reduceIte,Int.reduceLT,Int.reduceLE,Int.reduceToNat,Int.reduceBEq,Int.reduceBNe,Nat.reduceAdd,Nat.reduceMul,Nat.reduceSub,Nat.reduceLeDiff]
    exact rblock_exit hb hl hlt S A B O sep (fun ts' e=>by cases e;exact (isT_shr hrb (by omega) ok).1.ne) (by rw [hrs];rfl) (fun y r e=>by rw [hrs] at e;cases e;simp)
   | false =>
    rw [hrb] at hrs
    simp only [Bool.false_eq_true,if_false] at hrs
    simp (disch:=(first | exact dz | fail)) only [SXB,SX,reduceIte,Int.reduceLT,Int.reduceLE,Int.reduceToNat,Int.reduceBEq,Int.reduceBNe,Nat.reduceAdd,Nat.reduceMul,Nat.reduceSub,Nat.reduceLeDiff]
    have hnz:=hnz ts rfl
    have hnts:ts.length ≤ m + 1:=hn
    have hsz:(vs++ex).length + ts.length ≤ 100000:=hsz
    have hsz2:ss.length + ts.length ≤ 100000:=hsz2
    have hpos:=ok.pos
    refine HC.mono (HS m (by omega) i1 bv1 (vs++ex) ts h1 hnts hnz hsz S) fun r h3 hp=>?_
    obtain ⟨a3,i3,bv3,s,ex3,rfl,S3,B3,hex3,hy⟩:=hp
    have hs1:=A.size
    have hs3:=a3.size
    have hkey:∀ k,blkOf sv=some k→h.size ≤ k:=O.key
    have ecs:(encS s).cells.size=14:=by rw [encS_cells];simp [celS_len]
    have O3:Hld 78 14 h3 h.size sv (encSs ss):=O.mono fun k hk=>a3.get k (sep k hk).1 (by have:=hkey k hk;omega) (sep k hk).2
    have A3:Adv kp h h3:=⟨by omega,fun k h1' h2'=>(a3.get k (by omega) h2' fun e=>by have:=B k e;omega).trans (A.get k h1' h2')⟩
    simp only [resK_ret]
    rw [bdF_one (n:=14) ecs rfl,Option.map_some,bq_some]
    obtain ⟨s',h5,q1,q2,q3,q4,q5⟩:=O3.append1 (v:=encS s) (c:=(encS s).cells) (bytes:=224) (zero:=encS (.mk empty empty .zero .zero [] [])) rfl (fun k hk=>by have:=(sep k hk).1;omega) (by omega) (encSs_size ss) ecs (fun z hz=>celS_one s z (by rw [encS_cells] at hz;simpa using hz)) (by omega) (by omega) (by omega) (by rw [encS_cells];simp [celS_len]) (by rw [encSs_eq,List.length_map];omega)
    refine bq_of (x:=(s',h5)) (by rw [← q1];rw [encS];rfl) ?_
    have g5:∀ k,k < h3.size→blkOf sv ≠ some k→h5.get k=h3.get k:=fun k h1 h2=>q4 k h1 h2
    have hb3:∀ k,blkOf bv3=some k→blkOf sv ≠ some k:=fun k hk e=>by
     have:=sep k e
     rcases B3 k hk with h | h
     ·exact this.2 h
     ·omega
    have S5:RS h5 kp T i3 ((stmtF (blockG (stmtsF m) (b + 1) (l + loopN loop)) (vs++ex) ts).map (·.2)) bv3 (vs++(ex++ex3)) (b + 1) (l + loopN loop) 0:=by
     rw [← List.append_assoc]
     exact ⟨(g5 kp S3.lt (fun e=>by have:=hkey kp e;omega)).trans S3.row,S3.own.mono fun k hk=>g5 k (S3.ltb k hk) (hb3 k hk),S3.ne,by have:=S3.lt;omega,fun k hk=>by have:=S3.ltb k hk;omega,S3.ilt,S3.ok,S3.len,S3.at_⟩
    have A5:Adv kp h h5:=⟨by omega,fun k h1 h2=>(g5 k (by omega) (fun e=>by have:=hkey k e;omega)).trans (A3.get k h1 h2)⟩
    have key:∀ (sr:SR),stmtF (blockG (stmtsF m) (b + 1) (l + loopN loop)) (vs++ex) ts=sr→lenS (sr.map (·.2)) + 1 ≤ ts.length∧(∀ ts',sr.map (·.2)=.ok ts'→VsNZ (vs++(ex++ex3)))∧rs=(stmtsS m (b + 1) (l + loopN loop) (vs++(ex++ex3)) (sr.map (·.2))).map (fun y=>((ss++[s])++y.1,y.2)):=fun sr hsr=>by
     rw [hsr] at hrs hy
     cases sr with
     | error f=>exact ⟨by show 0 + 1 ≤ _;omega,(fun ts' e=>nomatch e),by rw [hrs];rfl⟩
     | ok y =>
      obtain ⟨⟨s0,vs0⟩,r0⟩:=y
      have hyy:=hy _ _ rfl
      cases hyy
      have hsh:=stmtF_shr (blockG_ok _ _ _) hnz.ok ok hsr
      refine ⟨?_,(fun ts' e=>?_),?_⟩
      ·have:=hsh.1.2;show r0.length + 1 ≤ _;omega
      ·rw [← List.append_assoc];exact stmtF_nz hnz hsr
      ·rw [hrs]
       show _=(stmtsF m (b + 1) (l + loopN loop) (vs++(ex++ex3)) r0).map _
       rw [← List.append_assoc]
       simp only
       cases stmtsF m (b + 1) (l + loopN loop) (vs++ex++ex3) r0 with
       | error f=>rfl
       | ok y =>
        obtain ⟨l1,l2⟩:=y
        show Except.ok _=Except.ok _
        simp
    obtain ⟨k1,k2,k3⟩:=key _ rfl
    refine ih i3 _ h5 (ex++ex3) bv3 s' (ss++[s]) (by omega) (by omega) k2 (by simp at hsz ⊢;omega) (by simp;omega) S5 A5 (fun k hk=>?_) (by rw [encSs_eq,List.map_append,← encSs_eq];exact q2) (fun k hk=>?_) k3
    ·rcases B3 k hk with h | h
     ·exact B k h
     ·omega
    ·rcases q5 with e1 | ⟨k',e1,g1,g2⟩
     ·rw [e1] at hk
      have:=sep k hk
      refine ⟨by omega,fun e=>?_⟩
      rcases B3 k e with h | h
      ·exact this.2 h
      ·omega
     ·rw [e1] at hk
      cases hk
      refine ⟨g2,fun e=>?_⟩
      have:=S3.ltb _ e
      omega
theorem rblock_tail {kp n i:Nat} {T:List Tok} {b l:Nat} {loop:Bool} {bv mv:Value} {vs more:List Var} {st st1:LS} {h0 h:AH} (hb:b ≤ 8) (hl:l ≤ 2)
  (HS:b < 8→(loop=true→l < 2)→∀ m,m < n→RStmtOK kp T (b + 1) (l + loopN loop) (blockG (stmtsF m) (b + 1) (l + loopN loop)) (m + 1))
  (hlt:kp < h0.size) (A:Adv kp h0 h) (hn:lenS st1 ≤ n) (hv:VsNZ vs) (hm:VsNZ more) (hsz:vs.length + more.length + lenS st1 ≤ 100000) (S:RS h kp T i st1 bv vs b l 0) (hsrc:∀ h',Adv kp h0 h'→Src h' 2 mv (more.map encV))
  (hchk:∀ ts,st1=.ok ts→isT ts 4 mLb=true→b < 8∧(loop=true→l < 2)) (hltb:∀ k,blkOf bv=some k→k < h0.size) {rs:BR} (hrs:rs=stmtsS n (b + 1) (l + loopN loop) (vs++more) (wantS 4 mLb st1)) :
  K14_3 (.pointer (some ⟨kp,0,none⟩)) (.int .i64 (loopN loop:Nat)) mv h (QG (BPostR kp T bv vs b l h0 rs)):=by
 refine X14_3_ok ?_
 unfold X14_3
 simp (disch:=(first | exact dz | fail)) only [SXB,SX,reduceIte,Int.reduceLT,Int.reduceLE,Int.reduceToNat,Int.reduceBEq,Int.reduceBNe,Nat.reduceAdd,Nat.reduceMul,Nat.reduceSub,Nat.reduceLeDiff]
 refine rwant_ok S 4 mLb (by omega) fun h2 i2 S2 a2=>?_
 have A2:=A.trans a2
 have hr:=S2.any
 have hlo:loopN loop ≤ 1:=by cases loop <;> decide
 have elen:=S2.own.len
 rw [List.length_map] at elen
 have hsm:=A2.size
 have hkl:=S2.lt
 generalize her:erOf (wantS 4 mLb st1)=er at hr
 simp (disch:=(first | exact dz | fail)) only [hr,elen,SXB,SX,reduceIte,Int.reduceLT,Int.reduceLE,Int.reduceToNat,Int.reduceBEq,Int.reduceBNe,Nat.reduceAdd,Nat.reduceMul,Nat.reduceSub,Nat.reduceLeDiff]
 -- what is bound is copied
 obtain ⟨s1,h3,p1,p2,p3,p4,p5⟩:=(Ab.Own.nil (e:=65) (z:=2) (h:=h2)).append (bytes:=24) (zero:=.agg #[.string ⟨#[]⟩,.int .u8 0]) (S2.own.src (encVs_size vs)) (fun v hv=>nomatch hv) (encVs_size vs) (encVs_one vs) (by omega) (by omega) (by omega) rfl (by simp only [List.length_map,List.length_nil];omega)
 refine bq_of p1 ?_
 have f3:∀ k,k < h2.size→h3.get k=h2.get k:=fun k hk=>p4 k hk (fun e=>nomatch e)
 have A3:Adv kp h0 h3:=⟨by omega,fun k h1 h2=>(f3 k (by omega)).trans (A2.get k h1 h2)⟩
 have b3:∀ k,blkOf s1=some k→h2.size ≤ k∧k < h3.size:=fun k hk=>by
  rcases p5 with h | ⟨k',h,g1,g2⟩
  ·rw [h] at hk;cases hk
  ·rw [h] at hk;cases hk;exact ⟨g1,g2⟩
 rw [List.nil_append] at p2
 obtain ⟨s2,h4,q1,q2,q3,q4,q5⟩:=p2.append (bytes:=24) (zero:=.agg #[.string ⟨#[]⟩,.int .u8 0]) (hsrc h3 A3) (encVs_size vs) (encVs_size more) (encVs_one more) (by omega) (by omega) (by omega) rfl (by simp only [List.length_map];omega)
 refine bq_of q1 ?_
 have b4:∀ k,blkOf s2=some k→h2.size ≤ k∧k < h4.size:=fun k hk=>by
  rcases q5 with h | ⟨k',h,g1,g2⟩
  ·rw [h] at hk;have:=b3 k hk;omega
  ·rw [h] at hk;cases hk;omega
 have f4:∀ k,k < h2.size→h4.get k=h2.get k:=fun k hk=>(q4 k (by omega) (fun e=>by have:=b3 k e;omega)).trans (f3 k hk)
 have A4:Adv kp h0 h4:=⟨by omega,fun k h1 h2=>(f4 k (by omega)).trans (A2.get k h1 h2)⟩
 have hr4:=(f4 kp (by omega)).trans hr
 obtain ⟨y1,y2,y3,rfl⟩:=q2.isSl
 have ew:IntKind.i64.wrap ((b:Int) + 1)=((b + 1:Nat):Int):=by rw [wrap64 (by omega) (by omega)];omega
 have el:IntKind.i64.wrap ((l:Int) + ((loopN loop:Nat):Int))=((l + loopN loop:Nat):Int):=by rw [wrap64 (by omega) (by omega)];omega
 simp (disch:=(first | exact dz | fail)) only [hr4,ew,el,SXB,SX,reduceIte,Int.reduceLT,Int.reduceLE,Int.reduceToNat,Int.reduceBEq,Int.reduceBNe,Nat.reduceAdd,Nat.reduceMul,Nat.reduceSub,Nat.reduceLeDiff]
 have hbn:blkOf (.slice y1 y2 y3) ≠ some kp:=fun e=>by have:=b4 kp e;omega
 have S5:RS (((h4.put kp (rrow T i2 (.slice y1 y2 y3) b l 0 er)).put kp (rrow T i2 (.slice y1 y2 y3) (b + 1) l 0 er)).put kp (rrow T i2 (.slice y1 y2 y3) (b + 1) (l + loopN loop) 0 er)) kp T i2 (wantS 4 mLb st1) (.slice y1 y2 y3) (vs++more) (b + 1) (l + loopN loop) 0:=by
  refine ⟨by rw [her];exact get_put_eq rfl,?_,hbn,by simp;omega,fun k hk=>by have:=b4 k hk;simp;omega,S2.ilt,S2.ok,S2.len,S2.at_⟩
  rw [List.map_append]
  exact q2.mono fun k hk=>by
   have:=b4 k hk
   rw [get_put_ne (by omega),get_put_ne (by omega),get_put_ne (by omega)]
 have A5:Adv kp h0 (((h4.put kp (rrow T i2 (.slice y1 y2 y3) b l 0 er)).put kp (rrow T i2 (.slice y1 y2 y3) (b + 1) l 0 er)).put kp (rrow T i2 (.slice y1 y2 y3) (b + 1) (l + loopN loop) 0 er)):=((A4.put _ _ (.inl rfl)).put _ _ (.inl rfl)).put _ _ (.inl rfl)
 have hlw:lenS (wantS 4 mLb st1) ≤ lenS st1:=by
  cases st1 with
  | error f=>exact Nat.le_refl _
  | ok ts =>
   show lenS (Lang.want 4 mLb ts) ≤ ts.length
   cases hw:Lang.want 4 mLb ts with
   | error f=>exact Nat.zero_le _
   | ok ts2=>have:=(want_shr hw (by omega) S.okl).2;show ts2.length ≤ _;omega
 -- in a state that is alive there was a mark
 have hchk2:∀ ts2,wantS 4 mLb st1=.ok ts2→b < 8∧(loop=true→l < 2):=fun ts2 e=>by
  cases st1 with
  | error f=>cases e
  | ok ts =>
   refine hchk ts rfl ?_
   change Lang.want 4 mLb ts=_ at e
   unfold Lang.want at e
   split at e
   ·assumption
   ·cases e
 by_cases hlive:∃ ts2,wantS 4 mLb st1=.ok ts2
 ·obtain ⟨ts2,hts2⟩:=hlive
  obtain ⟨c1,c2⟩:=hchk2 ts2 hts2
  exact rblock_loop hb hl (HS c1 c2) hlt n i2 _ _ more (.slice y1 y2 y3) (.slice none 0 0) [] (Nat.le_refl _) (by omega) (fun _ _=>hv.append hm) (by simp;omega) (by simp;omega) S5 A5 (fun k hk=>by have:=b4 k hk;omega) .nil (fun k hk=>nomatch hk) (by rw [hrs];generalize stmtsS n (b + 1) (l + loopN loop) (vs++more) (wantS 4 mLb st1)=x;cases x <;> rfl)
 ·have hz:lenS (wantS 4 mLb st1)=0:=by
   cases hw:wantS 4 mLb st1 with
   | error f=>rfl
   | ok ts2=>exact absurd ⟨ts2,hw⟩ hlive
  exact rblock_loop (n:=0) hb hl (fun m hm=>absurd hm (by omega)) hlt 0 i2 _ _ more (.slice y1 y2 y3) (.slice none 0 0) [] (Nat.le_refl _) (by omega) (fun _ _=>hv.append hm) (by simp;omega) (by simp;omega) S5 A5 (fun k hk=>by have:=b4 k hk;omega) .nil (fun k hk=>nomatch hk) (by
   rw [hrs]
   cases hw:wantS 4 mLb st1 with
   | error f=>rfl
   | ok ts2=>exact absurd ⟨ts2,hw⟩ hlive)
end Go.Proofs.YtnaenhkldanjbaaDoor.L
end
section
namespace Go.Proofs.YtnaenhkldanjbaaDoor.L
open Go.Ab Go.Lang Go.Proofs.YtnaenhkldanjbaaDoor.X
set_option maxRecDepth 100000
theorem loopN_eq (l:Nat) (loop:Bool):(if loop then l + 1 else l)=l + loopN loop:=by cases loop <;> rfl
theorem blockG_eq {n b l:Nat} {loop:Bool} {vs:List Var} {ts:List Tok} (h:¬ (isT ts 4 mLb=true∧(8 ≤ b ∨ (loop=true∧2 ≤ l)))):blockG (stmtsF n) b l loop vs ts=stmtsS n (b + 1) (l + loopN loop) vs (wantS 4 mLb (.ok ts)):=by
 unfold blockG
 rw [if_neg]
 ·rw [loopN_eq]
  show _=stmtsS n _ _ vs (Lang.want 4 mLb ts)
  cases Lang.want 4 mLb ts <;> rfl
 ·intro hh
  simp only [Bool.and_eq_true,Bool.or_eq_true,decide_eq_true_eq] at hh
  exact h hh
theorem rblock_ok {kp n:Nat} {T:List Tok} {b l:Nat} (hb:b ≤ 8) (hl:l ≤ 2)
  (HS:∀ loop,b < 8→(loop=true→l < 2)→∀ m,m < n→RStmtOK kp T (b + 1) (l + loopN loop) (blockG (stmtsF m) (b + 1) (l + loopN loop)) (m + 1)):RBlockOK kp T b l (blockG (stmtsF n) b l) n:=by
 intro loop st i bv mv vs more h hn hv hm hsz S hsrc
 refine HC.ghOr (X14_ok (Q:=QG (BPostR kp T bv vs b l h (blockS (blockG (stmtsF n) b l) loop (vs++more) st))) ?_)
 unfold X14
 have hlt:=S.lt
 simp (disch:=(first | exact dz | fail)) only [SXB,SX,reduceIte,Int.reduceLT,Int.reduceLE,Int.reduceToNat,Int.reduceBEq,Int.reduceBNe,Nat.reduceAdd,Nat.reduceMul,Nat.reduceSub,Nat.reduceLeDiff]
 refine HC.exact (risT S 4 mLb) ?_
 cases hi:isS st 4 mLb with
 | false =>
  simp (disch:=(first | exact dz | fail)) only [SXB,SX,reduceIte,Int.reduceLT,Int.reduceLE,Int.reduceToNat,Int.reduceBEq,Int.reduceBNe,Nat.reduceAdd,Nat.reduceMul,Nat.reduceSub,Nat.reduceLeDiff]
  refine rblock_tail (n:=n) (st:=st) (st1:=st) hb hl (HS loop) hlt (.refl _ _) hn hv hm hsz S hsrc (fun ts e h1=>?_) S.ltb ?_
  ·subst e
   have:isT ts 4 mLb=false:=hi
   rw [this] at h1;cases h1
  ·cases st with
   | error f=>rfl
   | ok ts =>
    refine blockG_eq fun hh=>?_
    have:isT ts 4 mLb=false:=hi
    rw [this] at hh;cases hh.1
 | true =>
  cases st with
  | error f=>cases hi
  | ok ts =>
   have hlb:isT ts 4 mLb=true:=hi
   have hr:=S.live
   obtain ⟨u,hu⟩:=S.tok
   have hh:headAt ts=u.at_:=by
    have hd:T.drop i=ts:=S.at_
    rw [← hd,List.drop_eq_getElem_cons S.ilt]
    rw [List.getElem?_eq_getElem S.ilt] at hu
    rw [← Option.some.inj hu];rfl
   have bad:(8 ≤ b ∨ (loop=true∧2 ≤ l))→∀ h2,RS h2 kp T i (.error (164,u.at_)) bv vs b l 0→Adv kp h h2→K14_3 (.pointer (some ⟨kp,0,none⟩)) (.int .i64 (loopN loop:Nat)) mv h2 (QG (BPostR kp T bv vs b l h (blockS (blockG (stmtsF n) b l) loop (vs++more) (.ok ts)))):=fun hbad h2 S2 a2=>by
    refine rblock_tail (n:=n) (st:=.ok ts) (st1:=.error (164,u.at_)) hb hl (HS loop) hlt a2 (by show 0 ≤ n;omega) hv hm (by show _ + _ + 0 ≤ _;omega) S2 hsrc (fun ts e=>nomatch e) S.ltb ?_
    show blockG (stmtsF n) b l loop (vs++more) ts=.error (164,u.at_)
    unfold blockG
    rw [if_pos,hh]
    simp only [hlb,Bool.true_and,Bool.or_eq_true,Bool.and_eq_true,decide_eq_true_eq]
    exact hbad
   have good:b < 8→(loop=true→l < 2)→K14_3 (.pointer (some ⟨kp,0,none⟩)) (.int .i64 (loopN loop:Nat)) mv h (QG (BPostR kp T bv vs b l h (blockS (blockG (stmtsF n) b l) loop (vs++more) (.ok ts)))):=fun h1 h2=>by
    refine rblock_tail (n:=n) (st:=.ok ts) (st1:=.ok ts) hb hl (HS loop) hlt (.refl _ _) hn hv hm hsz S hsrc (fun _ _ _=>⟨h1,h2⟩) S.ltb ?_
    refine blockG_eq fun hh=>?_
    rcases hh.2 with h | ⟨h3,h4⟩
    ·omega
    ·have:=h2 h3;omega
   by_cases h8:8 ≤ b
   ·have e1:(8:Int) ≤ (b:Int):=by omega
    simp (disch:=(first | exact dz | fail)) only [hr,e1,SXB,SX,reduceIte,Int.reduceLT,Int.reduceLE,Int.reduceToNat,Int.reduceBEq,Int.reduceBNe,Nat.reduceAdd,Nat.reduceMul,Nat.reduceSub,Nat.reduceLeDiff]
    refine HC.exact (tok_ok S hu) ?_
    simp (disch:=(first | exact dz | fail)) only [encT,SXB,SX,reduceIte,Int.reduceLT,Int.reduceLE,Int.reduceToNat,Int.reduceBEq,Int.reduceBNe,Nat.reduceAdd,Nat.reduceMul,Nat.reduceSub,Nat.reduceLeDiff]
    refine rfail_ok S 164 u.at_ (by omega) fun h2 S2 a2=>?_
    simp (disch:=(first | exact dz | fail)) only [SXB,SX,reduceIte,Int.reduceLT,Int.reduceLE,Int.reduceToNat,Int.reduceBEq,Int.reduceBNe,Nat.reduceAdd,Nat.reduceMul,Nat.reduceSub,Nat.reduceLeDiff]
    exact bad (.inl h8) h2 S2 a2
   ·have e1:¬ ((8:Int) ≤ (b:Int)):=by omega
    cases loop with
    | false =>
     have e2:¬ ((0:Int) < ((loopN false:Nat):Int)):=by decide
     simp (disch:=(first | exact dz | fail)) only [hr,e1,e2,SXB,SX,reduceIte,Int.reduceLT,Int.reduceLE,Int.reduceToNat,Int.reduceBEq,Int.reduceBNe,Nat.reduceAdd,Nat.reduceMul,Nat.reduceSub,Nat.reduceLeDiff]
     exact good (by omega) (fun h=>nomatch h)
    | true =>
     have e2:((0:Int) < ((loopN true:Nat):Int)):=by decide
     by_cases h2:2 ≤ l
     ·have e3:(2:Int) ≤ (l:Int):=by omega
      simp (disch:=(first | exact dz | fail)) only [hr,e1,e2,e3,SXB,SX,reduceIte,Int.reduceLT,Int.reduceLE,Int.reduceToNat,Int.reduceBEq,Int.reduceBNe,Nat.reduceAdd,Nat.reduceMul,Nat.reduceSub,Nat.reduceLeDiff]
      refine HC.exact (tok_ok S hu) ?_
      simp (disch:=(first | exact dz | fail)) only [encT,SXB,SX,reduceIte,Int.reduceLT,Int.reduceLE,Int.reduceToNat,Int.reduceBEq,Int.reduceBNe,Nat.reduceAdd,Nat.reduceMul,Nat.reduceSub,Nat.reduceLeDiff]
      refine rfail_ok S 164 u.at_ (by omega) fun h2' S2 a2=>?_
      simp (disch:=(first | exact dz | fail)) only [SXB,SX,reduceIte,Int.reduceLT,Int.reduceLE,Int.reduceToNat,Int.reduceBEq,Int.reduceBNe,Nat.reduceAdd,Nat.reduceMul,Nat.reduceSub,Nat.reduceLeDiff]
      exact bad (.inr ⟨rfl,h2⟩) h2' S2 a2
     ·have e3:¬ ((2:Int) ≤ (l:Int)):=by omega
      simp (disch:=(first | exact dz | fail)) only [hr,e1,e2,e3,SXB,SX,reduceIte,Int.reduceLT,Int.reduceLE,Int.reduceToNat,Int.reduceBEq,Int.reduceBNe,Nat.reduceAdd,Nat.reduceMul,Nat.reduceSub,Nat.reduceLeDiff]
      exact good (by omega) (fun _=>by omega)
end Go.Proofs.YtnaenhkldanjbaaDoor.L
end
