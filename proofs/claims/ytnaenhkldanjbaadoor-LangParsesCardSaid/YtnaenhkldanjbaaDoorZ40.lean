import Derived.Test.YtnaenhkldanjbaaDoorRows
import GoSem.ClaimGoes
import GoSem.ClaimJoined
import GoSem.ClaimOpen
import Derived.Test.YtnaenhkldanjbaaDoorZ8
import Derived.Test.YtnaenhkldanjbaaDoorZ32
import Derived.Test.YtnaenhkldanjbaaDoorZ39
set_option linter.unusedVariables false
set_option linter.unusedSimpArgs false
section
namespace Go.Proofs.YtnaenhkldanjbaaDoor.L
open Go.Ab Go.Lang Go.Proofs.YtnaenhkldanjbaaDoor.X
set_option maxRecDepth 100000
theorem rparse_bad {h h1:AH} {a b:Nat} {rs:R Lang.Prog} (g0:h1.get h.size=some (.cells (celP prog0).toArray 34 (0,0),none)) (K:Kp h.size h h1) (hrs:rs=.error (a,b)) (ha:a ≠ 0) :
  bq (stN 10 h1 (.pointer (some ⟨h.size,0,none⟩)) (.agg #[.slice none 0 0,.slice none 0 0,.slice none 0 0,.bool false,.bool false,.string ⟨#[]⟩,.int .i64 0,.int .i64 0,.string ⟨#[]⟩,.slice none 0 0])) fun h_1=>bq (seqO [ldN 10 h_1 (.pointer (some ⟨h.size,0,none⟩)),some (.int .i64 (a:Nat)),some (.int .i64 (b:Nat))]) fun vs=>RParseP h rs (.ret (oneOf vs)) h_1:=by
 refine bq_of (stN_full g0 (by rfl) rfl (fun z hz=>by simp [Value.cells] at hz;rcases hz with rfl | rfl | rfl | rfl | rfl | rfl <;> rfl)) ?_
 rw [ldN_full (n:=10) (get_put_eq rfl) rfl]
 simp (disch:=(first | exact dz | fail)) only [SXB,SX,reduceIte,Int.reduceLT,Int.reduceLE,Int.reduceToNat,Int.reduceBEq,Int.reduceBNe,Nat.reduceAdd,Nat.reduceMul,Nat.reduceSub,Nat.reduceLeDiff]
 rw [hrs]
 refine ⟨?_,rfl,ha⟩
 (repeat (first | exact Kp.refl _ _ | assumption | refine Kp.push ?_ _ _ (by first | omega | (simp only [sz_push,sz_put];omega)) | refine Kp.put ?_ _ _ (by first | omega | (simp only [sz_push,sz_put];omega))))
theorem rparse_ok {h:AH} {s:ByteArray}:HC Tryd.prog 6 [.string s].toArray h (RParseP h (parseF s)):=by
 refine X6_ok ?_
 unfold X6
 generalize hs1:stN 1=s1
 generalize hs10:stN 10=s10
 generalize hl10:ldN 10=l10
 by_cases hbig:4096 < s.size
 ·have e:((s.size:Nat):Int) > 4096:=by omega
  have hx:parseF s=.error (1,0):=by unfold parseF;rw [if_pos hbig]
  simp (disch:=(first | exact dz | fail)) only [e,SXB,SX,reduceIte,Int.reduceLT,Int.reduceLE,Int.reduceToNat,Int.reduceBEq,Int.reduceBNe,Nat.reduceAdd,Nat.reduceMul,Nat.reduceSub,Nat.reduceLeDiff]
  subst hs1 hs10 hl10
  exact rparse_bad (a:=1) (b:=0) (get_push_eq rfl) (by (repeat (first | exact Kp.refl _ _ | assumption | refine Kp.push ?_ _ _ (by first | omega | (simp only [sz_push,sz_put];omega)) | refine Kp.put ?_ _ _ (by first | omega | (simp only [sz_push,sz_put];omega))))) hx (by omega)
 ·have e:¬ (((s.size:Nat):Int) > 4096):=by omega
  have hs:s.size ≤ 4096:=by omega
  simp (disch:=(first | exact dz | fail)) only [e,SXB,SX,reduceIte,Int.reduceLT,Int.reduceLE,Int.reduceToNat,Int.reduceBEq,Int.reduceBNe,Nat.reduceAdd,Nat.reduceMul,Nat.reduceSub,Nat.reduceLeDiff]
  subst hs1 hs10 hl10
  refine rscan_ok hs ?_
  cases hsc:scanF s (s.size + 1) 0 with
  | error j =>
   intro h2 K2
   have hx:parseF s=.error (160,j):=by unfold parseF;rw [if_neg hbig,hsc]
   have z2:=K2.size
   simp only [sz_push] at z2
   have g0:h2.get h.size=some ((.cells #[.slice none 0 0,.slice none 0 0,.slice none 0 0,.bool false,.bool false,.string ⟨#[]⟩,.int .i64 0,.int .i64 0,.string ⟨#[]⟩,.slice none 0 0] 34 (0,0)),none):=by rw [K2.get _ (by simp)];exact get_push_eq rfl
   have e2:(j:Int) ≥ 0:=by omega
   generalize hs1:stN 1=s1
   generalize hs10:stN 10=s10
   generalize hl10:ldN 10=l10
   simp (disch:=(first | exact dz | fail)) only [e2,SXB,SX,reduceIte,Int.reduceLT,Int.reduceLE,Int.reduceToNat,Int.reduceBEq,Int.reduceBNe,Nat.reduceAdd,Nat.reduceMul,Nat.reduceSub,Nat.reduceLeDiff]
   subst hs1 hs10 hl10
   exact rparse_bad (a:=160) (b:=j) g0 ⟨by omega,fun k hk=>(K2.get k (by simp;omega)).trans (get_push_ne (by omega))⟩ hx (by omega)
  | ok ts =>
   intro h2 v K2 O hb
   rw [List.nil_append] at O
   have hx:parseF s=programF ts:=by unfold parseF;rw [if_neg hbig,hsc]
   obtain ⟨tok,hlen⟩:=scanF_ok hs _ _ _ (Nat.zero_le _) hsc
   have hpos:=tok.pos
   have z2:=K2.size
   simp only [sz_push] at z2
   have g0:h2.get h.size=some ((.cells #[.slice none 0 0,.slice none 0 0,.slice none 0 0,.bool false,.bool false,.string ⟨#[]⟩,.int .i64 0,.int .i64 0,.string ⟨#[]⟩,.slice none 0 0] 34 (0,0)),none):=by rw [K2.get _ (by simp)];exact get_push_eq rfl
   have hkey:∀ k,blkOf v=some k→h.size + 1 ≤ k:=fun k hk=>by have:=O.key k hk;simpa using this
   have e2:¬ ((-1:Int) ≥ 0):=by omega
   obtain ⟨x1,x2,x3,rfl⟩:=O.isSl
   generalize hs1:stN 1=s1
   generalize hs5:stN 5=s5
   simp (disch:=(first | exact dz | fail)) only [e2,SXB,SX,reduceIte,Int.reduceLT,Int.reduceLE,Int.reduceToNat,Int.reduceBEq,Int.reduceBNe,Nat.reduceAdd,Nat.reduceMul,Nat.reduceSub,Nat.reduceLeDiff]
   subst hs1 hs5
   refine bq_of (x:=.agg #[.slice x1 x2 x3,.int .i64 0,.slice none 0 0,.int .i64 0,.int .i64 0,.int .i64 0,.int .i64 0,.int .i64 0]) rfl ?_
   refine bq_of (x:=encV (wKey,kT)) rfl ?_
   refine bq_of (x:=encV (wValues,kL)) rfl ?_
   refine bq_of (x:=(Value.slice (some ⟨h2.size + 1,0,none⟩) 2 2,(h2.push (.cells #[.slice x1 x2 x3,.int .i64 0,.slice none 0 0,.int .i64 0,.int .i64 0,.int .i64 0,.int .i64 0,.int .i64 0] 63 (0,0)) none).push (.cells #[.string wKey,.int .u8 116,.string wValues,.int .u8 108] 65 (0,0)) none)) rfl ?_
   dsimp only
   simp only [sz_push]
   have O5:Ab.Own 72 3 (((h2.push (.cells #[.slice x1 x2 x3,.int .i64 0,.slice none 0 0,.int .i64 0,.int .i64 0,.int .i64 0,.int .i64 0,.int .i64 0] 63 (0,0)) none).push (.cells #[.string wKey,.int .u8 116,.string wValues,.int .u8 108] 65 (0,0)) none).push (.cells #[.slice none 0 0,.slice none 0 0,.slice none 0 0,.bool false,.bool false,.string ⟨#[]⟩,.int .i64 0,.int .i64 0,.string ⟨#[]⟩,.slice none 0 0] 34 (0,0)) none) (.slice x1 x2 x3) (ts.map encT):=(Own.of_hld O).mono fun k hk=>by
    have:=hb k hk
    rw [get_push_ne (by simp;omega),get_push_ne (by simp;omega),get_push_ne (by omega)]
   rcases O5.turn (P:=Tryd.prog) (by omega) (encTs_size _) with ⟨_,hnil⟩ | ⟨h6,gu,gf,gs⟩
   ·have:ts.length=0:=by simpa using congrArg List.length hnil
    omega
   have hkn:∀ k,h2.size ≤ k→blkOf (.slice x1 x2 x3) ≠ some k:=fun k hk e=>by have:=hb _ e;omega
   have hko:∀ k,k < h.size + 1→blkOf (.slice x1 x2 x3) ≠ some k:=fun k hk e=>by have:=hkey _ e;omega
   have gk:(((h2.push (.cells #[.slice x1 x2 x3,.int .i64 0,.slice none 0 0,.int .i64 0,.int .i64 0,.int .i64 0,.int .i64 0,.int .i64 0] 63 (0,0)) none).push (.cells #[.string wKey,.int .u8 116,.string wValues,.int .u8 108] 65 (0,0)) none).push (.cells #[.slice none 0 0,.slice none 0 0,.slice none 0 0,.bool false,.bool false,.string ⟨#[]⟩,.int .i64 0,.int .i64 0,.string ⟨#[]⟩,.slice none 0 0] 34 (0,0)) none).get h2.size=some ((.cells #[.slice x1 x2 x3,.int .i64 0,.slice none 0 0,.int .i64 0,.int .i64 0,.int .i64 0,.int .i64 0,.int .i64 0] 63 (0,0)),none):=by
    rw [get_push_ne (by simp;omega),get_push_ne (by simp)];exact get_push_eq rfl
   have gr:=gu.row (k:=h2.size) (c:=[.slice x1 x2 x3,.int .i64 0,.slice none 0 0,.int .i64 0,.int .i64 0,.int .i64 0,.int .i64 0,.int .i64 0]) (c':=[VSl (ts.map encT),.int .i64 0,.slice none 0 0,.int .i64 0,.int .i64 0,.int .i64 0,.int .i64 0,.int .i64 0]) (e:=63) gk (gf _ (hkn _ (Nat.le_refl _))) (.cons .here (.cons (.same _) (.cons (.same _) (.cons (.same _) (.cons (.same _) (.cons (.same _) (.cons (.same _) (.cons (.same _) .nil))))))))
   refine HC.gh (pre:=[]) (post:=[.int .i64 1,.string wMap]) (Gh.turn gr (.same _)) ?_
   have hs6:h6.size=h2.size + 3:=by rw [gs];simp
   have x0:RQ true h (h6.put h2.size (some (.cells [VSl (ts.map encT),.int .i64 0,.slice none 0 0,.int .i64 0,.int .i64 0,.int .i64 0,.int .i64 0,.int .i64 0].toArray 63 (0,0),none))) h2.size ts 0 (.ok ts) (.slice none 0 0) [] prog0:=by
    refine ⟨?_,?_,?_,by rw [sz_put];omega,⟨get_put_eq rfl,(.nil:Ab.Own 65 2 _ _ _),(fun e=>nomatch e),by rw [sz_put];omega,(fun k hk=>nomatch hk),hpos,tok,by omega,rfl⟩,⟨by rw [sz_put];omega,fun k hk=>?_⟩,(fun k hk=>nomatch hk),by omega⟩
    ·rw [get_put_ne (by omega),gf _ (hko _ (by omega)),get_push_ne (by simp;omega),get_push_ne (by simp;omega),get_push_ne (by omega)]
     exact g0
    ·rw [get_put_ne (by omega),gf _ (hkn _ (by omega)),get_push_ne (by simp)]
     exact get_push_eq (by simp)
    ·rw [get_put_ne (by omega),gf _ (hkn _ (by omega))]
     exact get_push_eq (by simp)
    ·rw [get_put_ne (by omega),gf _ (hko _ (by omega)),get_push_ne (by simp;omega),get_push_ne (by simp;omega),get_push_ne (by omega)]
     exact (K2.get k (by simp;omega)).trans (get_push_ne (by omega))
   generalize h6.put h2.size (some (.cells [VSl (ts.map encT),.int .i64 0,.slice none 0 0,.int .i64 0,.int .i64 0,.int .i64 0,.int .i64 0,.int .i64 0].toArray 63 (0,0),none))=h7 at x0 ⊢
   refine x0.want 1 wMap (by omega) fun h8 i8 x8=>?_
   have nz:VsNZ manyV:=fun v hv=>by
    simp [manyV] at hv
    rcases hv with rfl | rfl <;> decide
   have nz1:VsNZ [(wKey,kT),(wValue,kT)]:=fun v hv=>by
    simp at hv
    rcases hv with rfl | rfl <;> decide
   simp only [resK_ret]
   refine bq_of (x:=encV (wKey,kT)) rfl ?_
   refine bq_of (x:=encV (wValue,kT)) rfl ?_
   refine bq_of (x:=(Value.slice (some ⟨h8.size,0,none⟩) 2 2,h8.push (.cells #[.string wKey,.int .u8 116,.string wValue,.int .u8 116] 65 (0,0)) none)) rfl ?_
   have x9:=x8.push (.cells #[.string wKey,.int .u8 116,.string wValue,.int .u8 116] 65 (0,0))
   have hk8:=x8.S.lt
   have l8:=x9.S.lens
   refine x9.block (more:=[(wKey,kT),(wValue,kT)]) nz1 (by simp;omega) (fun h' A=>?_) fun h10 i10 bv10 ss x10 ys=>?_
   ·refine Src.row (k:=h8.size) (off:=0) (m:=[(wKey,kT),(wValue,kT)].map encV) ((A.get _ (by simp) (by omega)).trans (get_push_eq rfl)) (fun v hv=>encVs_size _ v hv) (by simp) ?_
    simp [encV,flatC,Value.cells,kT]
   simp only [RK,Nat.reduceAdd]
   refine bq_of x10.set1 ?_
   have x11:=x10.set (p':=⟨ss,[],[],false,false,.zero⟩)
   generalize hb1:block0S [(wKey,kT),(wValue,kT)] (wantS 1 wMap (.ok ts))=b1 at x10 x11 ys
   refine HC.exact (risT x11.S 1 wCombine) ?_
   cases he:isS (b1.map (·.2)) 1 wCombine with
   | false =>
    simp (disch:=(first | exact dz | fail)) only [SXB,SX,reduceIte,Int.reduceLT,Int.reduceLE,Int.reduceToNat,Int.reduceBEq,Int.reduceBNe,Nat.reduceAdd,Nat.reduceMul,Nat.reduceSub,Nat.reduceLeDiff]
    exact rprog_15 x11 (by rw [hx];exact prog_no hb1 he ys)
   | true =>
    generalize hs1:stN 1=s1
    simp (disch:=(first | exact dz | fail)) only [SXB,SX,reduceIte,Int.reduceLT,Int.reduceLE,Int.reduceToNat,Int.reduceBEq,Int.reduceBNe,Nat.reduceAdd,Nat.reduceMul,Nat.reduceSub,Nat.reduceLeDiff]
    subst hs1
    have hne:∀ ts,b1.map (·.2)=.ok ts→ts.tail ≠ []:=fun ts e=>by
     have h1:isS (.ok ts) 1 wCombine=true:=by rw [← e];exact he
     exact (isT_shr h1 (by omega) (RS.oks x11.S ts e)).1.ne
    refine x11.next hne fun h12 i12 x12=>?_
    simp only [RK,Nat.reduceAdd]
    refine bq_of x12.set4 ?_
    have x13:=x12.set (p':=⟨ss,[],[],true,false,.zero⟩)
    have l13:=x13.S.lens
    have z13:=x13.size
    refine x13.block (more:=manyV) nz (by simp [manyV];omega) (fun h' A=>?_) fun h14 i14 bv14 ss2 x14 ys2=>?_
    ·refine Src.row (k:=h2.size + 1) (off:=0) (m:=manyV.map encV) ((A.get _ (by omega) (by omega)).trans x13.many) (fun v hv=>encVs_size _ v hv) (by simp [manyV]) ?_
     simp [manyV,encV,flatC,Value.cells,kT,kL]
    simp only [RK,Nat.reduceAdd]
    refine bq_of x14.set2 ?_
    exact rprog_15 (x14.set (p':=⟨ss,ss2,[],true,false,.zero⟩)) (by rw [hx];exact prog_yes hb1 he ys rfl ys2)
end Go.Proofs.YtnaenhkldanjbaaDoor.L
end
section
namespace Go.Ab
theorem any_split {α:Type} (f:α→Bool) (n:Nat) (l:List α) (h1:(l.take n).any f=false) (h2:(l.drop n).any f=false):l.any f=false:=by
 rw [← List.take_append_drop n l,List.any_append,h1,h2]
 rfl
theorem goes_none {P:Program} (h:P.funcs.toList.any Func.goes=false) {c:OpenClaim} (hs:c.start=.entering):false=c.goesBy P:=by
 have hf:∀ g:Nat,((P.funcs[g]?:Option Func).any Func.goes)=false:=by
  intro g
  cases hg:P.funcs[g]? with
  | none=>rfl
  | some fn =>
   have hm:fn ∈ P.funcs.toList:=by
    rw [← Array.getElem?_toList] at hg
    exact List.mem_of_getElem? hg
   have:=List.any_eq_false.1 h fn hm
   simpa using this
 have ha:P.funcs.any Func.goes=false:=by rw [← Array.any_toList];exact h
 have key:∀ f,P.goes f=false:=by
  intro f
  unfold Program.goes
  rw [ha]
  simp only [Bool.and_false,Bool.or_false]
  rw [List.any_eq_false]
  intro g _
  simp [hf g]
 unfold OpenClaim.goesBy Program.goesAt Program.goesFrom
 rw [hs]
 cases hn:P.funcNamed c.func with
 | none=>rfl
 | some f=>simp [key f]
end Go.Ab
end
section
namespace Go.Ab
def laidL (f:DataW Unit→Option (List Value)) (s:Nat):List (DataW Unit)→Option (List Value)
 | []=>some []
 | d::ds=>match f d,laidL f s ds with
  | some v,some vs=>if v.length=s then some (v++vs) else none
  | _,_=>none
def laidF (P:Program) (f:TypeId→DataW Unit→Option (List Value)):Nat→List Field→List (DataW Unit)→Option (List Value)
 | _,[],[]=>some []
 | off,g::gs,d::ds=>if g.offset=off then match f g.type d with
  | some v=>if v.length=P.cellsOf g.type then match laidF P f (off + v.length) gs ds with
   | some vs=>some (v++vs)
   | none=>none
   else none
  | none=>none
  else none
 | _,_,_=>none
def laidC (P:Program):Nat→TypeId→DataW Unit→Option (List Value)
 | 0,_,_=>none
 | n + 1,t,d=>match P.underlying t with
  | some (.int _)=>match d with
   | .lit (.int k x)=>some [.int k x]
   | _=>none
  | some .bool=>match d with
   | .lit (.bool b)=>some [.bool b]
   | _=>none
  | some .string=>match d with
   | .lit (.string l)=>some [.string ⟨l.toArray⟩]
   | _=>none
  | some (.array m e)=>match d with
   | .agg ds=>if P.cellsOf t=m * P.cellsOf e then laidL (laidC P n e) (P.cellsOf e) ds else none
   | _=>none
  | some (.struct fs)=>match d with
   | .agg ds=>match laidF P (laidC P n) 0 fs.toList ds with
    | some vs=>if vs.length=P.cellsOf t then some vs else none
    | none=>none
   | _=>none
  | _=>none
theorem chunks_eq {α:Type} {s:Nat}:∀ {m:Nat} {a b:List α},a.length=m * s→b.length=m * s→(∀ i,i < m→(a.drop (i * s)).take s=(b.drop (i * s)).take s)→a=b:=by
 intro m
 induction m with
 | zero =>
  intro a b ha hb _
  have e1:a=[]:=List.eq_nil_of_length_eq_zero (by simpa using ha)
  have e2:b=[]:=List.eq_nil_of_length_eq_zero (by simpa using hb)
  rw [e1,e2]
 | succ m ih =>
  intro a b ha hb h
  have h0:=h 0 (by omega)
  simp only [Nat.zero_mul,List.drop_zero] at h0
  have e:a.drop s=b.drop s:=by
   refine ih (by rw [List.length_drop,ha,Nat.succ_mul];omega) (by rw [List.length_drop,hb,Nat.succ_mul];omega) fun i hi=>?_
   have:=h (i + 1) (by omega)
   rw [List.drop_drop,List.drop_drop]
   rw [show s + i * s=(i + 1) * s by rw [Nat.succ_mul];omega]
   exact this
  rw [← List.take_append_drop s a,← List.take_append_drop s b,h0,e]
theorem laidL_eq {f:DataW Unit→Option (List Value)} {s:Nat}:∀ {ds:List (DataW Unit)} {vs:List Value},laidL f s ds=some vs→vs.length=ds.length * s∧∀ (i:Nat) d,ds[i]?=some d→∃ v,f d=some v∧(vs.drop (i * s)).take s=v:=by
 intro ds
 induction ds with
 | nil=>intro vs h;cases h;exact ⟨by simp,fun i d hd=>by simp at hd⟩
 | cons d ds ih =>
  intro vs h
  simp only [laidL] at h
  split at h
  ·rename_i v ws hv hw
   split at h
   ·rename_i hl
    cases h
    obtain ⟨h1,h2⟩:=ih hw
    refine ⟨by rw [List.length_append,List.length_cons,Nat.succ_mul];omega,fun i x hx=>?_⟩
    cases i with
    | zero =>
     simp at hx;subst hx
     exact ⟨v,hv,by simp [← hl]⟩
    | succ i =>
     obtain ⟨u,g1,g2⟩:=h2 i x (by simpa using hx)
     refine ⟨u,g1,?_⟩
     rw [show (i + 1) * s=v.length + i * s by rw [hl,Nat.succ_mul];omega,← List.drop_drop,List.drop_left]
     exact g2
   ·cases h
  ·cases h
theorem laidF_eq {P:Program} {f:TypeId→DataW Unit→Option (List Value)} {cs:List Value} {g:Field→Option (DataW Unit × List MemPlace)} (hg:∀ x y v,g x=some y→f x.type y.1=some v→v.length=P.cellsOf x.type→(cs.drop x.offset).take (P.cellsOf x.type)=v) :
  ∀ {fs:List Field} {ds:List (DataW Unit)} {off:Nat} {vs:List Value} {xs:List (DataW Unit × List MemPlace)},laidF P f off fs ds=some vs→fs.mapM g=some xs→ds=xs.map (·.1)→(cs.drop off).take vs.length=vs:=by
 intro fs
 induction fs with
 | nil =>
  intro ds off vs xs h hm hd
  cases ds with
  | nil=>simp only [laidF] at h;cases h;rfl
  | cons=>simp only [laidF] at h;cases h
 | cons x fs ih =>
  intro ds off vs xs h hm hd
  cases ds with
  | nil=>simp only [laidF] at h;cases h
  | cons d ds =>
   simp only [laidF] at h
   split at h
   case isFalse=>cases h
   rename_i hoff
   split at h
   case h_2=>cases h
   rename_i v hv
   split at h
   case isFalse=>cases h
   rename_i hl
   split at h
   case h_2=>cases h
   rename_i ws hw
   cases h
   rw [List.mapM_cons] at hm
   simp only [Option.bind_eq_bind,Option.bind_eq_some_iff,Option.pure_def,Option.some.injEq] at hm
   obtain ⟨y,hy,ys,hys,rfl⟩:=hm
   simp only [List.map_cons,List.cons.injEq] at hd
   obtain ⟨rfl,rfl⟩:=hd
   have h1:=hg x y v hy hv hl
   have h2:=ih hw hys rfl
   rw [hoff,← hl] at h1
   rw [List.length_append,List.take_add,h1,List.drop_drop]
   rw [h2]
theorem laidC_eq {P:Program} {w:World} {base:Nat} {sp:Nat→Bool} {held:Bool}:∀ (n:Nat) {fuel:Nat} {t:TypeId} {cs vs:List Value} {d:DataW Unit} {p:List MemPlace},
  laidC P n t d=some vs→DataW.trod (fun _=>()) P w base sp held fuel t cs=some (d,p)→cs=vs:=by
 intro n
 induction n with
 | zero=>intro fuel t cs vs d p h;cases h
 | succ n ih =>
  intro fuel t cs vs d p h ht
  cases fuel with
  | zero=>cases ht
  | succ fuel =>
   unfold laidC at h
   unfold DataW.trod at ht
   split at h
   ·rename_i k hu
    rw [hu] at ht
    simp only at ht
    split at ht <;> first
     | (cases ht;done)
     | skip
    ·rename_i e;cases e
    ·rename_i k1 k2 m e
     cases e
     split at ht
     ·rename_i hk
      cases ht
      simp only at h
      cases h
      rw [hk.1]
     ·cases ht
    all_goals (rename_i e;cases e)
   ·rename_i hu
    rw [hu] at ht
    simp only at ht
    split at ht <;> first
     | (cases ht;done)
     | skip
    ·cases ht;simp only at h;cases h;rfl
    all_goals (rename_i e;cases e)
   ·rename_i hu
    rw [hu] at ht
    simp only at ht
    split at ht <;> first
     | (cases ht;done)
     | skip
    all_goals first
     | (rename_i e;cases e;done)
     | skip
    split at ht
    ·cases ht
     simp only at h
     cases h
     rfl
    ·cases ht
   ·rename_i m e hu
    rw [hu] at ht
    simp only at ht
    split at ht
    ·rename_i hlen
     rw [Option.map_eq_some_iff] at ht
     obtain ⟨xs,hx,hxe⟩:=ht
     cases hxe
     simp only at h
     split at h
     case isFalse=>cases h
     rename_i hcells
     obtain ⟨h1,h2⟩:=laidL_eq h
     obtain ⟨g1,g2⟩:=mapM_get hx
     rw [List.length_range] at g1
     refine chunks_eq (m:=m) (s:=P.cellsOf e) (by rw [hlen,hcells]) (by rw [h1,List.length_map,← g1]) fun i hi=>?_
     obtain ⟨y,k1,k2⟩:=g2 i i (by rw [List.getElem?_range hi])
     obtain ⟨v,k3,k4⟩:=h2 i y.1 (by rw [List.getElem?_map,k2];rfl)
     rw [ih k3 k1,k4]
    ·cases ht
   ·rename_i fs hu
    rw [hu] at ht
    simp only at ht
    split at ht
    ·rename_i hlen
     rw [Option.map_eq_some_iff] at ht
     obtain ⟨xs,hx,hxe⟩:=ht
     cases hxe
     simp only at h
     split at h
     case h_2=>cases h
     rename_i ws hw
     split at h
     case isFalse=>cases h
     rename_i hl
     cases h
     have:=laidF_eq (cs:=cs) (fun x y v hy hv _=>ih hv hy) hw hx rfl
     rw [List.drop_zero,hl,← hlen,List.take_length] at this
     exact this
    ·cases ht
   ·cases h
def rowT (P:Program) (g:Nat):Option TypeId:=(((begin P (fun _ _=>0) default).world.heap[g]?).bind Obj.row?).map (·.2)
def laid1 (P:Program) (x:String × DataW Unit):Option (Nat × Array Value × TypeId):=match P.globalNamed x.1 with
 | some g=>match (P.globals[g]?).map (·.type) with
  | some t=>match laidC P 20 t x.2,rowT P g with
   | some vs,some e=>if vs.all plain then some (g,vs.toArray,e) else none
   | _,_=>none
  | none=>none
 | none=>none
def laidT (P:Program):List (String × DataW Unit)→T (Obj × Option Nat)
 | []=>.leaf
 | x::l=>match laid1 P x with
  | some (g,c,e)=>(laidT P l).put (g + 1) (g + 1) (some (.cells c e (0,1),none))
  | none=>laidT P l
def AH.laid (P:Program) (l:List (String × DataW Unit)):AH:=⟨laidT P l,P.globals.size,[]⟩
theorem laidT_get {P:Program} {w:World} (hv:∀ g e,rowT P g=some e→g < P.globals.size→∃ c,w.heap[g]?=some (.cells c e)):∀ {l:List (String × DataW Unit)} {ps:List MemPlace},DataW.LaidVars P w l ps →
  ∀ k o s,(laidT P l).get (k + 1)=some (o,s)→s=none∧k < P.globals.size∧∃ c e fz,o=.cells c e (0,1)∧w.heap[k]?=some (.cells c e fz)∧∀ v ∈ c.toList,plain v=true:=by
 intro l
 induction l with
 | nil=>intro ps _ k o s h;simp [laidT,T.get] at h
 | cons x l ih =>
  intro ps hl k o s h
  obtain ⟨n,d⟩:=x
  obtain ⟨g,t,cs,fuel,p,q,h1,h2,h3,h4,h5,_⟩:=hl
  simp only [laidT] at h
  split at h
  ·rename_i g' c e he
   rw [T.get_put _ _ _ _ _ (by omega) (Nat.le_refl _) (by omega)] at h
   split at h
   ·rename_i hk
    have hk':k=g':=by omega
    subst hk'
    cases h
    unfold laid1 at he
    rw [h1] at he
    simp only [h2] at he
    split at he
    case h_2=>cases he
    rename_i vs e' hvs hrow
    split at he
    case isFalse=>cases he
    rename_i hpl
    cases he
    have hlt:k < P.globals.size:=by
     cases hg:P.globals[k]? with
     | none=>rw [hg] at h2;cases h2
     | some _=>exact (Array.getElem?_eq_some_iff.1 hg).1
    obtain ⟨c',hc'⟩:=hv k e hrow hlt
    unfold World.var? at h3
    rw [h1] at h3
    simp only [Option.bind_some,hc'] at h3
    cases h3
    have:=laidC_eq 20 hvs h4
    refine ⟨rfl,hlt,vs.toArray,e,(0,0),rfl,?_,fun v hv=>List.all_eq_true.1 hpl v (by simpa using hv)⟩
    rw [hc',← this]
   ·exact ih h5 k o s h
  ·exact ih h5 k o s h
theorem rw_known {P:Program} {w:World} (hsz:P.globals.size ≤ w.heap.size) {h:AH} (hs:h.size=P.globals.size) (hget:∀ k o s,h.get k=some (o,s)→s=none∧k < P.globals.size∧∃ c e fz c',o=.cells c e (0,1) ∧
  w.heap[k]?=some (.cells c' e fz)∧c.size ≤ c'.size∧(∀ (i:Nat) v,c[i]?=some v→c'[i]?=some v)∧∀ v ∈ c.toList,plain v=true):RW P (stillR P w) h w:=by
 have b:=rw_bare (P:=P) hsz
 refine ⟨b.glob,fun k n hk=>by rw [hs];exact b.dom k n hk,b.sdom,fun k o s hk=>?_,fun j k n hj hk gj gk=>?_,b.frz,fun k o s n hk hn hf=>?_,b.sep⟩
 ·obtain ⟨rfl,hlt,c,e,fz,c',rfl,hw,hle,hcc,hp⟩:=hget k o s hk
  refine ⟨k,_,b.glob k hlt,hw,.ice hle fun i v v' h1 h2=>?_,rfl⟩
  rw [hcc i v h1] at h2
  cases h2
  exact RV.of_plain (hp v (List.mem_of_getElem? (by rw [Array.getElem?_toList];exact h1)))
 ·have hlj:=(b.dom j n hj).1
  have hlk:=(b.dom k n hk).1
  have e1:=b.glob j hlj
  have e2:=b.glob k hlk
  rw [hj] at e1;rw [hk] at e2
  cases e1;cases e2;rfl
 ·obtain ⟨rfl,_,c,e,fz,c',rfl,_⟩:=hget k o s hk
  rfl
theorem laid_get {P:Program} {w:World} {l:List (String × DataW Unit)} (hv:varsB P=true) (hs:w.ShapedOpen P) (hh:(l.filter fun x=>x.2.handleName?.isSome).isEmpty=true) (hl:laidMetH P l w) :
  ∀ k o s,(AH.laid P l).get k=some (o,s)→s=none∧k < P.globals.size∧∃ c e fz,o=.cells c e (0,1)∧w.heap[k]?=some (.cells c e fz)∧∀ v ∈ c.toList,plain v=true:=by
 unfold laidMetH at hl
 rw [List.isEmpty_iff] at hh
 rw [hh] at hl
 obtain ⟨ps,hl,_⟩:=hl
 exact laidT_get (P:=P) (w:=w) (fun g e he hg=>by
  have h1:=List.all_eq_true.1 hv g (List.mem_range.2 hg)
  unfold rowT at he
  rw [Option.map_eq_some_iff] at he
  obtain ⟨⟨zero,t⟩,hx,rfl⟩:=he
  obtain ⟨cs,h2,_⟩:=hs.1 g zero t hg hx
  exact ⟨cs,h2⟩) hl
def AH.laidM (P:Program) (l:List (String × DataW Unit)) (g:Nat) (e:TypeId) (m:Int):AH:=(AH.laid P l).put g (some (.cells #[.int .i64 m] e (0,1),none))
theorem rw_laidM {P:Program} {w:World} {l:List (String × DataW Unit)} (hv:varsB P=true) (hs:w.ShapedOpen P) (hh:(l.filter fun x=>x.2.handleName?.isSome).isEmpty=true) (hl:laidMetH P l w) {g:Nat} {e:TypeId} {m:Int}
  (hg:g < P.globals.size) (he:rowT P g=some e) (hm:w.cell? ⟨g,0,none⟩=some (.int .i64 m)):RW P (stillR P w) (AH.laidM P l g e m) w :=
 rw_known (vars_size (vars_rows hv hs)) rfl fun k o s hk=>by
  unfold AH.laidM at hk
  rw [AH.get_put] at hk
  split at hk
  ·rename_i e1;subst e1;cases hk
   have h1:=List.all_eq_true.1 hv k (List.mem_range.2 hg)
   unfold rowT at he
   rw [Option.map_eq_some_iff] at he
   obtain ⟨⟨zero,t⟩,hx,rfl⟩:=he
   obtain ⟨cs,h2,_⟩:=hs.1 k zero t hg hx
   have h3:cs[0]?=some (.int .i64 m):=by simpa [World.cell?,h2] using hm
   refine ⟨rfl,hg,#[.int .i64 m],t,_,cs,rfl,h2,?_,fun i v hi=>?_,fun v hv=>?_⟩
   ·have:=(Array.getElem?_eq_some_iff.1 h3).1;simp;omega
   ·cases i with
    | zero=>simp at hi;rw [← hi];exact h3
    | succ i=>simp at hi
   ·simp at hv;subst hv;rfl
  ·obtain ⟨h1,h2,c,e,fz,h3,h4,h5⟩:=laid_get hv hs hh hl k o s hk
   exact ⟨h1,h2,c,e,fz,c,h3,h4,Nat.le_refl _,fun _ _ h=>h,h5⟩
end Go.Ab
end
section
namespace Go.Proofs.YtnaenhkldanjbaaDoor.L
open Go.Ab Go.Lang Go.Proofs.YtnaenhkldanjbaaDoor.X
set_option maxRecDepth 100000
abbrev text1:ByteArray:=ByteArray.mk #[109,97,112,32,123,32,101,109,105,116,32,118,97,108,117,101,44,32,34,49,34,59,32,125,32,114,101,100,117,99,101,32,123,32,101,109,105,116,32,107,101,121,44,32,116,101,120,116,40,99,111,117,110,116,40,118,97,108,117,101,115,41,41,59,32,125]
abbrev text2:ByteArray:=ByteArray.mk #[109,97,112,32,123,32,101,109,105,116,32,120,44,32,107,101,121,59,32,125,32,114,101,100,117,99,101,32,123,32,125]
theorem text1_ok:∃ p,parseF text1=.ok p∧p.map.length=1:=by
 have e:(match parseF text1 with | .ok p=>p.map.length == 1 | .error _=>false)=true:=by kernel_rfl
 cases h:parseF text1 with
 | error f=>rw [h] at e;cases e
 | ok p=>rw [h] at e;exact ⟨p,rfl,by simpa using e⟩
theorem text2_ok:parseF text2=.error (162,11):=by
 have e:(match parseF text2 with | .ok p=>false | .error f=>f.1 == 162 && f.2 == 11)=true:=by kernel_rfl
 cases h:parseF text2 with
 | ok f=>rw [h] at e;cases e
 | error f =>
  rw [h] at e
  simp only [Bool.and_eq_true,beq_iff_eq] at e
  rw [show f=(162,11) from Prod.ext e.1 e.2]
theorem parseF_sz {s:ByteArray} {p:Lang.Prog} (h:parseF s=.ok p):SmP 100000 p:=by
 unfold parseF at h
 split at h
 ·cases h
 rename_i hs
 split at h
 ·cases h
 rename_i ts hsc
 have:=(scanF_ok (by omega) _ _ _ (Nat.zero_le _) hsc).2
 exact programF_sz (by omega) (by omega) h
theorem speaks_ok {h:AH} (G:Glob h):HC Tryd.prog 4 [].toArray h fun r h'=>r=.ret (.bool true)∧Kp h.size h h':=by
 refine X4_ok ?_
 unfold X4
 obtain ⟨p1,hp1,hl1⟩:=text1_ok
 generalize hs2:stN 2=s2
 generalize hl2:ldN 2=l2
 simp (disch:=(first | exact dz | fail)) only [SXB,SX,reduceIte,Int.reduceLT,Int.reduceLE,Int.reduceToNat,Int.reduceBEq,Int.reduceBNe,Nat.reduceAdd,Nat.reduceMul,Nat.reduceSub,Nat.reduceLeDiff]
 subst hs2 hl2
 refine HC.mono (parse_ok G) fun r h1 hp=>?_
 rw [hp1] at hp
 obtain ⟨K1,q,rfl,hq,hq2,gq⟩:=hp
 have z1:=K1.size
 simp only [resK_ret]
 refine bq_of (x:=.pointer (some ⟨q,0,none⟩)) rfl ?_
 refine bq_of (x:=.agg #[.int .i64 0,.int .i64 0]) rfl ?_
 refine bq_of (stN_full (get_push_eq rfl) rfl rfl (fun z hz=>by simp [Value.cells] at hz;rcases hz with rfl | rfl <;> rfl)) ?_
 have g2:((h1.push (.cells #[.int .i64 0,.int .i64 0] 26 (0,0)) none).put h1.size (some (.cells (Value.agg #[.int .i64 0,.int .i64 0]).cells 26 (0,0),none))).get h1.size=some (.cells #[.int .i64 0,.int .i64 0] 26 (0,0),none):=get_put_eq rfl
 have gq2:=(get_put_ne (h:=h1.push (.cells #[.int .i64 0,.int .i64 0] 26 (0,0)) none) (k:=h1.size) (j:=q) (v:=some (.cells (Value.agg #[.int .i64 0,.int .i64 0]).cells 26 (0,0),none)) (by omega)).trans ((get_push_ne (by omega)).trans gq)
 have K2:Kp h.size h ((h1.push (.cells #[.int .i64 0,.int .i64 0] 26 (0,0)) none).put h1.size (some (.cells (Value.agg #[.int .i64 0,.int .i64 0]).cells 26 (0,0),none))):=by (repeat (first | exact Kp.refl _ _ | assumption | refine Kp.push ?_ _ _ (by first | omega | (simp only [sz_push,sz_put];omega)) | refine Kp.put ?_ _ _ (by first | omega | (simp only [sz_push,sz_put];omega))))
 have z2:((h1.push (.cells #[.int .i64 0,.int .i64 0] 26 (0,0)) none).put h1.size (some (.cells (Value.agg #[.int .i64 0,.int .i64 0]).cells 26 (0,0),none))).size=h1.size + 1:=by simp
 generalize ((h1.push (.cells #[.int .i64 0,.int .i64 0] 26 (0,0)) none).put h1.size (some (.cells (Value.agg #[.int .i64 0,.int .i64 0]).cells 26 (0,0),none)))=h2 at g2 gq2 K2 z2 ⊢
 refine HC.mono (parse_ok (G.mono K2 G.size)) fun r h3 hp=>?_
 rw [text2_ok] at hp
 obtain ⟨K3,rfl⟩:=hp
 have z3:=K3.size
 simp only [resK_ret]
 refine bq_of (x:=.pointer none) rfl ?_
 refine bq_of (x:=.agg #[.int .i64 (162:Nat),.int .i64 (11:Nat)]) rfl ?_
 refine bq_of (stN_full (get_push_eq rfl) rfl rfl (fun z hz=>by simp [Value.cells] at hz;rcases hz with rfl | rfl <;> rfl)) ?_
 have g4:=(get_put_ne (h:=h3.push (.cells #[.int .i64 0,.int .i64 0] 26 (0,0)) none) (k:=h3.size) (j:=h1.size) (v:=some (.cells (Value.agg #[.int .i64 (162:Nat),.int .i64 (11:Nat)]).cells 26 (0,0),none)) (by omega)).trans ((get_push_ne (by omega)).trans ((K3.get h1.size (by omega)).trans g2))
 have gq4:=(get_put_ne (h:=h3.push (.cells #[.int .i64 0,.int .i64 0] 26 (0,0)) none) (k:=h3.size) (j:=q) (v:=some (.cells (Value.agg #[.int .i64 (162:Nat),.int .i64 (11:Nat)]).cells 26 (0,0),none)) (by omega)).trans ((get_push_ne (by omega)).trans ((K3.get q (by omega)).trans gq2))
 have g5:((h3.push (.cells #[.int .i64 0,.int .i64 0] 26 (0,0)) none).put h3.size (some (.cells (Value.agg #[.int .i64 (162:Nat),.int .i64 (11:Nat)]).cells 26 (0,0),none))).get h3.size=some (.cells #[.int .i64 162,.int .i64 11] 26 (0,0),none):=get_put_eq rfl
 have K4:Kp h.size h ((h3.push (.cells #[.int .i64 0,.int .i64 0] 26 (0,0)) none).put h3.size (some (.cells (Value.agg #[.int .i64 (162:Nat),.int .i64 (11:Nat)]).cells 26 (0,0),none))):=by
  have z2':=K2.size
  exact ⟨by simp;omega,fun k hk=>(get_put_ne (by omega)).trans ((get_push_ne (by omega)).trans ((K3.get k (by omega)).trans (K2.get k hk)))⟩
 generalize ((h3.push (.cells #[.int .i64 0,.int .i64 0] 26 (0,0)) none).put h3.size (some (.cells (Value.agg #[.int .i64 (162:Nat),.int .i64 (11:Nat)]).cells 26 (0,0),none)))=h4 at g4 gq4 g5 K4 ⊢
 have p0:(celP p1).toArray[0]?=some (slV (encSs p1.map)):=rfl
 generalize (celP p1).toArray=cc at gq4 p0
 have el:=lenL_slS p1.map
 rw [hl1] at el
 generalize slV (encSs p1.map)=v at el p0
 have e1:((0:Int) == 0)=true:=rfl
 have e2:((162:Int) == 162)=true:=rfl
 have e3:((11:Int) == 11)=true:=rfl
 have e4:(((1:Nat):Int) == 1)=true:=rfl
 simp (disch:=(first | exact dz | fail)) only [g4,gq4,g5,p0,el,e1,e2,e3,e4,SXB,SX,reduceIte,Int.reduceLT,Int.reduceLE,Int.reduceToNat,Int.reduceBEq,Int.reduceBNe,Nat.reduceAdd,Nat.reduceMul,Nat.reduceSub,Nat.reduceLeDiff]
 refine bq_of (x:=.agg #[.int .i64 162,.int .i64 11]) rfl ?_
 simp (disch:=(first | exact dz | fail)) only [e2,e3,SXB,SX,reduceIte,Int.reduceLT,Int.reduceLE,Int.reduceToNat,Int.reduceBEq,Int.reduceBNe,Nat.reduceAdd,Nat.reduceMul,Nat.reduceSub,Nat.reduceLeDiff]
 exact K4
theorem langParses_main {h:AH} (G:Glob h) (s:ByteArray):HC Tryd.prog 3 [.string s].toArray h fun r _=>∃ v,r=.ret v∧v=.bool true:=by
 refine X3_ok ?_
 unfold X3
 generalize hs2:stN 2=s2
 generalize hs10:stN 10=s10
 generalize hl5:ldN 5=l5
 simp (disch:=(first | exact dz | fail)) only [SXB,SX,reduceIte,Int.reduceLT,Int.reduceLE,Int.reduceToNat,Int.reduceBEq,Int.reduceBNe,Nat.reduceAdd,Nat.reduceMul,Nat.reduceSub,Nat.reduceLeDiff]
 subst hs2 hs10
 refine HC.mono (speaks_ok G) fun r h1 hp=>?_
 obtain ⟨rfl,K1⟩:=hp
 have z1:=K1.size
 have G1:=G.mono K1 G.size
 generalize hs2:stN 2=s2
 generalize hs10:stN 10=s10
 simp (disch:=(first | exact dz | fail)) only [SXB,SX,reduceIte,Int.reduceLT,Int.reduceLE,Int.reduceToNat,Int.reduceBEq,Int.reduceBNe,Nat.reduceAdd,Nat.reduceMul,Nat.reduceSub,Nat.reduceLeDiff]
 subst hs2 hs10
 refine HC.mono (parse_ok (s:=s) G1) fun r h2 hp=>?_
 cases hpf:parseF s with
 | error f =>
  rw [hpf] at hp
  obtain ⟨K2,rfl⟩:=hp
  have z2:=K2.size
  simp only [resK_ret]
  refine bq_of (x:=.pointer none) rfl ?_
  refine bq_of (x:=.agg #[.int .i64 f.1,.int .i64 f.2]) rfl ?_
  refine bq_of (stN_full (get_push_eq rfl) rfl rfl (fun z hz=>by simp [Value.cells] at hz;rcases hz with rfl | rfl <;> rfl)) ?_
  have g3:((h2.push (.cells #[.int .i64 0,.int .i64 0] 26 (0,0)) none).put h2.size (some (.cells (Value.agg #[.int .i64 f.1,.int .i64 f.2]).cells 26 (0,0),none))).get h2.size=some (.cells #[.int .i64 f.1,.int .i64 f.2] 26 (0,0),none):=get_put_eq rfl
  have z3:((h2.push (.cells #[.int .i64 0,.int .i64 0] 26 (0,0)) none).put h2.size (some (.cells (Value.agg #[.int .i64 f.1,.int .i64 f.2]).cells 26 (0,0),none))).size=h2.size + 1:=by simp
  generalize ((h2.push (.cells #[.int .i64 0,.int .i64 0] 26 (0,0)) none).put h2.size (some (.cells (Value.agg #[.int .i64 f.1,.int .i64 f.2]).cells 26 (0,0),none)))=h3 at g3 z3 ⊢
  refine HC.mono (rparse_ok (s:=s)) fun r h4 hp=>?_
  rw [hpf] at hp
  obtain ⟨K4,rfl,hne⟩:=hp
  have z4:=K4.size
  simp only [resK_ret]
  refine bq_of (x:=.agg (celP prog0).toArray) rfl ?_
  refine bq_of (x:=.int .i64 f.1) rfl ?_
  refine bq_of (x:=.int .i64 f.2) rfl ?_
  refine bq_of (stN_full (get_push_eq rfl) rfl (by rfl) (fun z hz=>celP_one prog0 z (by simpa [Value.cells] using hz))) ?_
  have g5:=(get_put_ne (h:=h4.push (.cells #[.slice none 0 0,.slice none 0 0,.slice none 0 0,.bool false,.bool false,.string ⟨#[]⟩,.int .i64 0,.int .i64 0,.string ⟨#[]⟩,.slice none 0 0] 34 (0,0)) none) (k:=h4.size) (j:=h2.size) (v:=some (.cells (Value.agg (celP prog0).toArray).cells 34 (0,0),none)) (by omega)).trans ((get_push_ne (by omega)).trans ((K4.get h2.size (by omega)).trans g3))
  generalize (h4.push (.cells #[.slice none 0 0,.slice none 0 0,.slice none 0 0,.bool false,.bool false,.string ⟨#[]⟩,.int .i64 0,.int .i64 0,.string ⟨#[]⟩,.slice none 0 0] 34 (0,0)) none).put h4.size (some (.cells (Value.agg (celP prog0).toArray).cells 34 (0,0),none))=h5 at g5 ⊢
  have e1:((f.1:Int) != (f.1:Int))=false:=by simp
  have e2:((f.2:Int) != (f.2:Int))=false:=by simp
  have e3:((f.1:Int) != 0)=true:=by simp;omega
  have e4:(true != true)=false:=rfl
  simp (disch:=(first | exact dz | fail)) only [g5,e1,e2,e3,e4,SXB,SX,reduceIte,Int.reduceLT,Int.reduceLE,Int.reduceToNat,Int.reduceBEq,Int.reduceBNe,Nat.reduceAdd,Nat.reduceMul,Nat.reduceSub,Nat.reduceLeDiff]
  exact ⟨_,rfl,rfl⟩
 | ok p =>
  rw [hpf] at hp
  obtain ⟨K2,q,rfl,hq,hq2,gq⟩:=hp
  obtain ⟨sm1,sm2,sm3,sm4⟩:=parseF_sz hpf
  have z2:=K2.size
  simp only [resK_ret]
  refine bq_of (x:=.pointer (some ⟨q,0,none⟩)) rfl ?_
  refine bq_of (x:=.agg #[.int .i64 0,.int .i64 0]) rfl ?_
  refine bq_of (stN_full (get_push_eq rfl) rfl rfl (fun z hz=>by simp [Value.cells] at hz;rcases hz with rfl | rfl <;> rfl)) ?_
  have g3:((h2.push (.cells #[.int .i64 0,.int .i64 0] 26 (0,0)) none).put h2.size (some (.cells (Value.agg #[.int .i64 0,.int .i64 0]).cells 26 (0,0),none))).get h2.size=some (.cells #[.int .i64 0,.int .i64 0] 26 (0,0),none):=get_put_eq rfl
  have gq3:=(get_put_ne (h:=h2.push (.cells #[.int .i64 0,.int .i64 0] 26 (0,0)) none) (k:=h2.size) (j:=q) (v:=some (.cells (Value.agg #[.int .i64 0,.int .i64 0]).cells 26 (0,0),none)) (by omega)).trans ((get_push_ne (by omega)).trans gq)
  have z3:((h2.push (.cells #[.int .i64 0,.int .i64 0] 26 (0,0)) none).put h2.size (some (.cells (Value.agg #[.int .i64 0,.int .i64 0]).cells 26 (0,0),none))).size=h2.size + 1:=by simp
  generalize ((h2.push (.cells #[.int .i64 0,.int .i64 0] 26 (0,0)) none).put h2.size (some (.cells (Value.agg #[.int .i64 0,.int .i64 0]).cells 26 (0,0),none)))=h3 at g3 gq3 z3 ⊢
  refine HC.mono (rparse_ok (s:=s)) fun r h4 hp=>?_
  rw [hpf] at hp
  obtain ⟨K4,rfl⟩:=hp
  have z4:=K4.size
  simp only [resK_ret]
  refine bq_of (x:=.agg (celP p).toArray) rfl ?_
  refine bq_of (x:=.int .i64 0) rfl ?_
  refine bq_of (x:=.int .i64 0) rfl ?_
  refine bq_of (stN_full (get_push_eq rfl) rfl (by simp [Value.cells,celP_len]) (fun z hz=>celP_one p z (by simpa [Value.cells] using hz))) ?_
  have g5:=(get_put_ne (h:=h4.push (.cells #[.slice none 0 0,.slice none 0 0,.slice none 0 0,.bool false,.bool false,.string ⟨#[]⟩,.int .i64 0,.int .i64 0,.string ⟨#[]⟩,.slice none 0 0] 34 (0,0)) none) (k:=h4.size) (j:=h2.size) (v:=some (.cells (Value.agg (celP p).toArray).cells 34 (0,0),none)) (by omega)).trans ((get_push_ne (by omega)).trans ((K4.get h2.size (by omega)).trans g3))
  have gq5:=(get_put_ne (h:=h4.push (.cells #[.slice none 0 0,.slice none 0 0,.slice none 0 0,.bool false,.bool false,.string ⟨#[]⟩,.int .i64 0,.int .i64 0,.string ⟨#[]⟩,.slice none 0 0] 34 (0,0)) none) (k:=h4.size) (j:=q) (v:=some (.cells (Value.agg (celP p).toArray).cells 34 (0,0),none)) (by omega)).trans ((get_push_ne (by omega)).trans ((K4.get q (by omega)).trans gq3))
  have gr5:((h4.push (.cells #[.slice none 0 0,.slice none 0 0,.slice none 0 0,.bool false,.bool false,.string ⟨#[]⟩,.int .i64 0,.int .i64 0,.string ⟨#[]⟩,.slice none 0 0] 34 (0,0)) none).put h4.size (some (.cells (Value.agg (celP p).toArray).cells 34 (0,0),none))).get h4.size=some (.cells (celP p).toArray 34 (0,0),none):=get_put_eq rfl
  generalize (h4.push (.cells #[.slice none 0 0,.slice none 0 0,.slice none 0 0,.bool false,.bool false,.string ⟨#[]⟩,.int .i64 0,.int .i64 0,.string ⟨#[]⟩,.slice none 0 0] 34 (0,0)) none).put h4.size (some (.cells (Value.agg (celP p).toArray).cells 34 (0,0),none))=h5 at g5 gq5 gr5 ⊢
  have hce:=celE_len p.part
  have a5:∀ k c,h5.get k=some (.cells (celP p).toArray c (0,0),none)→ldN 5 h5 (.pointer (some ⟨k,5,none⟩))=some (encE p.part):=fun k c g=>by
   rw [ldN_ptr,g,rowC_cells,Option.bind_some,if_pos (by simp [celP,celE_len])]
   rw [encE_eq]
   congr 3
   simp [celP,List.extract_eq_take_drop,hce]
   exact List.take_of_length_le (by omega)
  have q1:=a5 _ _ gq5
  have q2:=a5 _ _ gr5
  rw [hl5] at q1 q2
  have p0:(celP p).toArray[0]?=some (slV (encSs p.map)):=rfl
  have p1:(celP p).toArray[1]?=some (slV (encSs p.combine)):=rfl
  have p2:(celP p).toArray[2]?=some (slV (encSs p.reduce)):=rfl
  have p3:(celP p).toArray[3]?=some (.bool p.combines):=rfl
  have p4:(celP p).toArray[4]?=some (.bool p.parts):=rfl
  generalize (celP p).toArray=cc at gq5 gr5 p0 p1 p2 p3 p4
  have e1:((0:Int) != 0)=false:=rfl
  have e4:(false != false)=false:=rfl
  have e5:(p.combines == p.combines)=true:=by simp
  have e6:(p.parts == p.parts)=true:=by simp
  simp (disch:=(first | exact dz | fail)) only [g5,gq5,gr5,p0,e1,e4,SXB,SX,reduceIte,Int.reduceLT,Int.reduceLE,Int.reduceToNat,Int.reduceBEq,Int.reduceBNe,Nat.reduceAdd,Nat.reduceMul,Nat.reduceSub,Nat.reduceLeDiff]
  refine HC.exact (block_eq p.map sm1 h5) ?_
  simp (disch:=(first | exact dz | fail)) only [gq5,gr5,p1,SXB,SX,reduceIte,Int.reduceLT,Int.reduceLE,Int.reduceToNat,Int.reduceBEq,Int.reduceBNe,Nat.reduceAdd,Nat.reduceMul,Nat.reduceSub,Nat.reduceLeDiff]
  refine HC.exact (block_eq p.combine sm2 h5) ?_
  simp (disch:=(first | exact dz | fail)) only [gq5,gr5,p2,SXB,SX,reduceIte,Int.reduceLT,Int.reduceLE,Int.reduceToNat,Int.reduceBEq,Int.reduceBNe,Nat.reduceAdd,Nat.reduceMul,Nat.reduceSub,Nat.reduceLeDiff]
  refine HC.exact (block_eq p.reduce sm3 h5) ?_
  simp (disch:=(first | exact dz | fail)) only [gq5,gr5,p3,p4,e5,e6,q1,q2,SXB,SX,reduceIte,Int.reduceLT,Int.reduceLE,Int.reduceToNat,Int.reduceBEq,Int.reduceBNe,Nat.reduceAdd,Nat.reduceMul,Nat.reduceSub,Nat.reduceLeDiff]
  refine HC.exact (expr_eq p.part sm4 h5) ?_
  exact ⟨_,rfl,rfl⟩
noncomputable def heap0 (l:List (String × DataW Unit)) (m:Int):AH:=AH.laidM Tryd.prog l 0 3 m
theorem heap0_rw {W:World} {l:List (String × DataW Unit)} (hl:laidMetH Tryd.prog l W) (hs:W.ShapedOpen Tryd.prog) (hh:(l.filter fun x=>x.2.handleName?.isSome).isEmpty=true):∃ m,RW Tryd.prog (stillR Tryd.prog W) (heap0 l m) W:=by
 obtain ⟨m,hm⟩:=Tryd.laysM219.s1_3 W hs
 exact ⟨m,rw_laidM (by kernel_rfl) hs hh hl (of_decide_eq_true (by kernel_rfl)) (by kernel_rfl) hm⟩
theorem heap0_glob (m:Int):Glob (heap0 Rows.langParsesRow.laid m):=by
 refine ⟨⟨m,3,(0,1),none,?_⟩,?_,of_decide_eq_true (by kernel_rfl)⟩
 ·unfold heap0 AH.laidM
  rw [AH.get_put,if_pos rfl]
 ·exact ⟨123,(0,1),none,by kernel_rfl⟩
theorem langParses_law (m:Int) (s:Ty.str.T) (w0:Ty.str.WF s):HF Tryd.prog 3 #[Ty.str.val s] (heap0 Rows.langParsesRow.laid m) fun v _=>v=.bool true :=
 HC.to_HF (langParses_main (heap0_glob m) s)
end Go.Proofs.YtnaenhkldanjbaaDoor.L
end
