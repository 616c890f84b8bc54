import Derived.KernelRfl
import Derived.Shelf.LaysM
import Derived.Shelf.Small.Strs
import Derived.Shelf.Strconv.Itoa0
import Derived.Shelf.Strconv.Itoa1
import Derived.Shelf.Strconv.Itoa2
import Derived.Shelf.Strconv.Itoa3
import Derived.Shelf.Strings.Search1
import Derived.Shelf.Strings.Search2
import Derived.Shelf.Strings.Search3
import Derived.Shelf.Strings.Shaped
import Derived.Test.YtnaenhkldanjbaaDoorProg
import Derived.Test.YtnaenhkldanjbaaDoorZ14
import Derived.Test.YtnaenhkldanjbaaDoorZ16
import Derived.Test.YtnaenhkldanjbaaDoorZ17
import Derived.Test.YtnaenhkldanjbaaDoorZ18
import Derived.Test.YtnaenhkldanjbaaDoorZ20
set_option linter.unusedVariables false
set_option linter.unusedSimpArgs false
section
namespace Go.Proofs.YtnaenhkldanjbaaDoor.L
open Go.Ab Go.Lang Go.Proofs.YtnaenhkldanjbaaDoor.X
set_option maxRecDepth 100000
variable {ow:Bool}
def prow (tv bv:Value) (b l c:Nat):Option (Obj × Option Nat):=some (.cells #[tv,bv,.int .i64 b,.int .i64 l,.int .i64 c] 55 (0,0),none)
def tokV (e:Tok) (ts:List Tok):Value:=VSl ((ts++[e]).map encT)
inductive Lit (e z:Nat) (h:AH):Value→List Value→Prop
 | mk {k:Nat} {c:Array Value} {l:List Value} (hg:h.get k=some (.cells c e (0,0),none)) (hc:c=(flatC l).toArray):Lit e z h (.slice (some ⟨k,0,none⟩) l.length l.length) l
def Bnd (ow:Bool) (e z:Nat) (h:AH) (v:Value) (l:List Value):Prop:=match ow with
 | true=>Ab.Own e z h v l
 | false=>Lit e z h v l
theorem Bnd.mono {e z:Nat} {h h':AH} {s:Value} {l:List Value} (o:Bnd ow e z h s l) (hg:∀ k,blkOf s=some k→h'.get k=h.get k):Bnd ow e z h' s l:=by
 cases ow with
 | true=>exact Ab.Own.mono o hg
 | false =>
  obtain ⟨h1,hc⟩:=(o:Lit e z h s l)
  exact Lit.mk ((hg _ rfl).trans h1) hc
theorem Bnd.len {e z:Nat} {h:AH} {s:Value} {l:List Value} (o:Bnd ow e z h s l):lenL s=some (.int .i64 l.length):=by
 cases ow with
 | true=>exact Ab.Own.len o
 | false =>
  obtain ⟨h1,hc⟩:=(o:Lit e z h s l)
  rfl
theorem Bnd.rd {e:Nat} {h:AH} {z:Nat} {v:Value} {l:List Value} (o:Bnd ow e z h v l) (hz:∀ v ∈ l,v.cells.size=z) (hb:∀ k,blkOf v=some k→k < h.size):Rd h z v l:=by
 cases ow with
 | true=>exact Ab.Own.rd o hz hb
 | false =>
  refine ⟨o.len,fun i x hx=>?_⟩
  have hxz:=hz x (List.mem_of_getElem? hx)
  have hi:=(List.getElem?_eq_some_iff.1 hx).1
  obtain ⟨hg,hc⟩:=(o:Lit e z h v l)
  rename_i k c
  have hsz:c.size=l.length * z:=by rw [hc];simp [flatC_length hz]
  have hle:i * z + z ≤ l.length * z:=by rw [← Nat.succ_mul];exact Nat.mul_le_mul_right _ (by omega)
  refine ⟨.pointer (some ⟨k,i * z,none⟩),?_,?_,hxz⟩
  ·rw [ia_sl,if_pos ⟨by omega,by omega⟩]
   simp
  ·have e:x.cells=c.extract (i * z) (i * z + z):=by
    apply Array.ext
    ·simp;omega
    ·intro j h1 h2
     rw [Array.getElem_extract]
     have:=flatC_at hz j (i:=i) (x:=x) hx (by omega)
     apply Option.some.inj
     rw [← Array.getElem?_eq_getElem,← this,← Array.getElem?_eq_getElem,hc]
     simp
   rw [e]
   exact .ptr (hb _ rfl) hg (by omega)
structure PSg (ow:Bool) (h:AH) (kp:Nat) (e:Tok) (ts:List Tok) (bv:Value) (vs:List Var) (b l c:Nat):Prop where
 row:h.get kp=prow (tokV e ts) bv b l c
 own:Bnd ow 84 2 h bv (vs.map encV)
 ne:blkOf bv ≠ some kp
 lt:kp < h.size
 ltb:∀ k,blkOf bv=some k→k < h.size
abbrev PS:=PSg true
structure Adv (kp:Nat) (h h':AH):Prop where
 size:h.size ≤ h'.size
 get:∀ k,k < h.size→k ≠ kp→h'.get k=h.get k
structure AdvB (kp:Nat) (bv:Value) (h h':AH):Prop where
 size:h.size ≤ h'.size
 get:∀ k,k < h.size→k ≠ kp→blkOf bv ≠ some k→h'.get k=h.get k
theorem Adv.refl (kp:Nat) (h:AH):Adv kp h h:=⟨Nat.le_refl _,fun _ _ _=>rfl⟩
theorem Adv.trans {kp:Nat} {a b c:AH} (x:Adv kp a b) (y:Adv kp b c):Adv kp a c:=⟨Nat.le_trans x.size y.size,fun k h1 h2=>(y.get k (Nat.lt_of_lt_of_le h1 x.size) h2).trans (x.get k h1 h2)⟩
theorem Adv.push {kp:Nat} {h h':AH} (x:Adv kp h h') (o:Obj) (s:Option Nat):Adv kp h (h'.push o s):=x.trans ⟨by simp,fun k hk _=>get_push_ne (by omega)⟩
theorem Adv.put {kp:Nat} {h h':AH} (x:Adv kp h h') (j:Nat) (v:Option (Obj × Option Nat)) (hj:j=kp ∨ h.size ≤ j):Adv kp h (h'.put j v):=⟨by simpa using x.size,fun k hk hn=>by rw [get_put_ne (by rcases hj with rfl | hj <;> omega)];exact x.get k hk hn⟩
theorem Adv.b {kp:Nat} {bv:Value} {h h':AH} (x:Adv kp h h'):AdvB kp bv h h':=⟨x.size,fun k h1 h2 _=>x.get k h1 h2⟩
theorem AdvB.refl (kp:Nat) (bv:Value) (h:AH):AdvB kp bv h h:=⟨Nat.le_refl _,fun _ _ _ _=>rfl⟩
theorem AdvB.trans {kp:Nat} {bv bw:Value} {a b c:AH} (x:AdvB kp bv a b) (y:AdvB kp bw b c) (hb:∀ k,blkOf bw=some k→blkOf bv=some k ∨ a.size ≤ k):AdvB kp bv a c:=by
 refine ⟨Nat.le_trans x.size y.size,fun k h1 h2 h3=>?_⟩
 rw [y.get k (Nat.lt_of_lt_of_le h1 x.size) h2 fun e=>?_,x.get k h1 h2 h3]
 rcases hb k e with h | h
 ·exact h3 h
 ·omega
theorem PSg.adv {h h':AH} {kp:Nat} {e:Tok} {ts ts':List Tok} {bv:Value} {vs:List Var} {b l c b' l' c':Nat} (S:PSg ow h kp e ts bv vs b l c) (a:Adv kp h h') (hr:h'.get kp=prow (tokV e ts') bv b' l' c'):PSg ow h' kp e ts' bv vs b' l' c' :=
 ⟨hr,S.own.mono fun k hk=>a.get k (S.ltb k hk) (fun e=>S.ne (by rw [hk,e])),S.ne,Nat.lt_of_lt_of_le S.lt a.size,fun k hk=>Nat.lt_of_lt_of_le (S.ltb k hk) a.size⟩
theorem PSg.same {h h':AH} {kp:Nat} {e:Tok} {ts:List Tok} {bv:Value} {vs:List Var} {b l c:Nat} (S:PSg ow h kp e ts bv vs b l c) (K:Kp h.size h h'):PSg ow h' kp e ts bv vs b l c :=
 S.adv ⟨K.size,fun k h1 _=>K.get k h1⟩ ((K.get kp S.lt).trans S.row)
theorem PSg.push {h:AH} {kp:Nat} {e:Tok} {ts:List Tok} {bv:Value} {vs:List Var} {b l c:Nat} (S:PSg ow h kp e ts bv vs b l c) (o:Obj) (s:Option Nat):PSg ow (h.push o s) kp e ts bv vs b l c:=S.same ((Kp.refl _ _).push o s (Nat.le_refl _))
def PanS (h:AH) (kp:Nat):Prop:=∃ a b c d n,h.get kp=some (.cells #[a,b,c,d,.int .i64 n] 55 (0,0),none)
theorem PSg.pan {h:AH} {kp:Nat} {e:Tok} {ts:List Tok} {bv:Value} {vs:List Var} {b l c:Nat} (S:PSg ow h kp e ts bv vs b l c):PanS h kp:=⟨_,_,_,_,_,S.row⟩
def faultV (f:Nat × Nat):Value:=.iface 26 (.agg #[.int .i64 f.1,.int .i64 f.2])
theorem tl_vs {h:AH} {a:Value} {l:List Value} (ha:a.cells.size=3):sliceV Tryd.prog h 46 (VSl (a::l)) (some (.int .i64 1)) none=some (VSl l):=by
 have hu:(Tryd.prog).underlying 46=some (.slice 52):=by kernel_rfl
 have hi:∃ d,(Tryd.prog).info? 52=some d∧d.size=3:=⟨_,rfl,by kernel_rfl⟩
 obtain ⟨d,hd,hds⟩:=hi
 show opSlice Tryd.prog h 46 (VSl (a::l)) (some (.int .i64 1)) none=_
 unfold opSlice
 rw [hu]
 have hb:bounds? (a::l).toArray.size (a::l).toArray.size (some (.int .i64 1)) none=some (1,l.length + 1):=by
  unfold bounds? bound?
  have e1:(0:Int) ≤ 1∧(1:Int) ≤ ((a::l).toArray.size:Nat):=by simp;omega
  simp only [e1,if_true]
  simp
 simp only [VSl,hd,hb]
 have e1:((a::l).toArray[0]?).all (fun x=>decide (x.cells.size=d.size))=true:=by simp [ha,hds]
 rw [if_pos e1]
 simp [VSl]
theorem encT_cells (t:Tok):(encT t).cells = #[.int .i64 t.cls,.int .i64 t.at_,.string t.text]:=rfl
theorem below_T (n:Nat) (t:Tok):Below n (encT t):=.agg fun v hv=>by
 simp at hv
 rcases hv with rfl | rfl | rfl
 ·exact .int _ _
 ·exact .int _ _
 ·exact .string _
theorem peek_ok {h:AH} {kp:Nat} {e t:Tok} {r:List Tok} {bv:Value} {vs:List Var} {b l c:Nat} (S:PSg ow h kp e (t::r) bv vs b l c):Ex Tryd.prog 37 [.pointer (some ⟨kp,0,none⟩)].toArray h (encT t) h:=by
 refine Ex.pureF (below_T _ t) (X37_ok ?_)
 unfold X37
 have hlt:=S.lt
 have hr:=S.row
 unfold prow tokV at hr
 have e1:((t::r)++[e]).map encT=encT t::(r++[e]).map encT:=rfl
 rw [e1] at hr
 simp (disch:=(first | exact dz | fail)) only [hr,encT,SXB,SX,reduceIte,Int.reduceLT,Int.reduceLE,Int.reduceToNat,Int.reduceBEq,Int.reduceBNe,Nat.reduceAdd,Nat.reduceMul,Nat.reduceSub,Nat.reduceLeDiff]
 (repeat (first | exact Kp.refl _ _ | assumption | refine Kp.push ?_ _ _ (by first | omega | (simp only [sz_push,sz_put];omega)) | refine Kp.put ?_ _ _ (by first | omega | (simp only [sz_push,sz_put];omega))))
theorem int_beq (a b:Nat):((a:Int) == (b:Int))=(a == b):=by
 rw [Bool.eq_iff_iff,beq_iff_eq,beq_iff_eq];omega
theorem is_ok {h:AH} {kp:Nat} {e:Tok} {ts:List Tok} {bv:Value} {vs:List Var} {b l c:Nat} (S:PSg ow h kp e ts bv vs b l c) (hp:ts ≠ []) (k:Nat) (x:ByteArray) :
  Ex Tryd.prog 26 [.pointer (some ⟨kp,0,none⟩),.int .i64 (k:Int),.string x].toArray h (.bool (isT ts k x)) h:=by
 cases ts with
 | nil=>exact absurd rfl hp
 | cons t r =>
  refine X26_ok ?_
  unfold X26
  simp (disch:=(first | exact dz | fail)) only [SXB,SX,reduceIte,Int.reduceLT,Int.reduceLE,Int.reduceToNat,Int.reduceBEq,Int.reduceBNe,Nat.reduceAdd,Nat.reduceMul,Nat.reduceSub,Nat.reduceLeDiff]
  refine HC.exact (peek_ok S) ?_
  simp only [isT,eqT]
  simp (disch:=(first | exact dz | fail)) only [encT,int_beq,SXB,SX,reduceIte,Int.reduceLT,Int.reduceLE,Int.reduceToNat,Int.reduceBEq,Int.reduceBNe,Nat.reduceAdd,Nat.reduceMul,Nat.reduceSub,Nat.reduceLeDiff]
  cases t.cls == k with
  | false =>
   simp (disch:=(first | exact dz | fail)) only [SXB,SX,reduceIte,Int.reduceLT,Int.reduceLE,Int.reduceToNat,Int.reduceBEq,Int.reduceBNe,Nat.reduceAdd,Nat.reduceMul,Nat.reduceSub,Nat.reduceLeDiff]
  | true =>
   simp (disch:=(first | exact dz | fail)) only [SXB,SX,reduceIte,Int.reduceLT,Int.reduceLE,Int.reduceToNat,Int.reduceBEq,Int.reduceBNe,Nat.reduceAdd,Nat.reduceMul,Nat.reduceSub,Nat.reduceLeDiff]
   refine HC.exact (peek_ok S) ?_
   simp (disch:=(first | exact dz | fail)) only [encT,SXB,SX,reduceIte,Int.reduceLT,Int.reduceLE,Int.reduceToNat,Int.reduceBEq,Int.reduceBNe,Nat.reduceAdd,Nat.reduceMul,Nat.reduceSub,Nat.reduceLeDiff]
theorem take_ok {h:AH} {kp:Nat} {e t:Tok} {r:List Tok} {bv:Value} {vs:List Var} {b l c:Nat} {Q:RQ} (S:PSg ow h kp e (t::r) bv vs b l c)
  (hq:∀ h',PSg ow h' kp e r bv vs b l c→Adv kp h h'→Q (.ret (encT t)) h'):HC Tryd.prog 27 [.pointer (some ⟨kp,0,none⟩)].toArray h Q:=by
 refine X27_ok ?_
 unfold X27
 have hlt:=S.lt
 have hr:=S.row
 unfold prow tokV at hr
 have e1:((t::r)++[e]).map encT=encT t::(r++[e]).map encT:=rfl
 rw [e1] at hr
 simp (disch:=(first | exact dz | fail)) only [hr,encT,tl_vs,SXB,SX,reduceIte,Int.reduceLT,Int.reduceLE,Int.reduceToNat,Int.reduceBEq,Int.reduceBNe,Nat.reduceAdd,Nat.reduceMul,Nat.reduceSub,Nat.reduceLeDiff]
 refine hq _ (S.adv ?_ ?_) ?_
 ·(repeat (first | exact Adv.refl _ _ | assumption | refine Adv.push ?_ _ _ | refine Adv.put ?_ _ _ (by first | exact .inl rfl | (right;first | omega | (simp only [sz_push,sz_put];omega)))))
 ·simp (disch:=(first | exact dz | fail)) only [SXB,SX,reduceIte,Int.reduceLT,Int.reduceLE,Int.reduceToNat,Int.reduceBEq,Int.reduceBNe,Nat.reduceAdd,Nat.reduceMul,Nat.reduceSub,Nat.reduceLeDiff]
  rfl
 ·(repeat (first | exact Adv.refl _ _ | assumption | refine Adv.push ?_ _ _ | refine Adv.put ?_ _ _ (by first | exact .inl rfl | (right;first | omega | (simp only [sz_push,sz_put];omega)))))
theorem fail_ok {h:AH} {kp:Nat} {k a:Nat} {Q:RQ} (hq:Q (.pan (faultV (k,a))) h):HC Tryd.prog 36 [.pointer (some ⟨kp,0,none⟩),.int .i64 (k:Int),.int .i64 (a:Int)].toArray h Q:=by
 refine X36_ok ?_
 unfold X36
 simp (disch:=(first | exact dz | fail)) only [mi,SXB,SX,reduceIte,Int.reduceLT,Int.reduceLE,Int.reduceToNat,Int.reduceBEq,Int.reduceBNe,Nat.reduceAdd,Nat.reduceMul,Nat.reduceSub,Nat.reduceLeDiff]
 exact hq
theorem want_ok {h:AH} {kp:Nat} {e:Tok} {ts:List Tok} {bv:Value} {vs:List Var} {b l c:Nat} {Q:RQ} (S:PSg ow h kp e ts bv vs b l c) (hp:ts ≠ []) (k:Nat) (x:ByteArray)
  (hok:∀ ts' h',Lang.want k x ts=.ok ts'→PSg ow h' kp e ts' bv vs b l c→Adv kp h h'→Q (.ret (.tuple #[])) h') (herr:∀ f,Lang.want k x ts=.error f→Q (.pan (faultV f)) h) :
  HC Tryd.prog 24 [.pointer (some ⟨kp,0,none⟩),.int .i64 (k:Int),.string x].toArray h Q:=by
 cases ts with
 | nil=>exact absurd rfl hp
 | cons t r =>
  refine X24_ok ?_
  unfold X24
  simp (disch:=(first | exact dz | fail)) only [SXB,SX,reduceIte,Int.reduceLT,Int.reduceLE,Int.reduceToNat,Int.reduceBEq,Int.reduceBNe,Nat.reduceAdd,Nat.reduceMul,Nat.reduceSub,Nat.reduceLeDiff]
  refine HC.exact (is_ok S hp k x) ?_
  unfold Lang.want at hok herr
  cases hi:isT (t::r) k x with
  | false =>
   rw [hi] at herr
   simp (disch:=(first | exact dz | fail)) only [SXB,SX,reduceIte,Int.reduceLT,Int.reduceLE,Int.reduceToNat,Int.reduceBEq,Int.reduceBNe,Nat.reduceAdd,Nat.reduceMul,Nat.reduceSub,Nat.reduceLeDiff]
   refine HC.exact (peek_ok S) ?_
   simp (disch:=(first | exact dz | fail)) only [encT,SXB,SX,reduceIte,Int.reduceLT,Int.reduceLE,Int.reduceToNat,Int.reduceBEq,Int.reduceBNe,Nat.reduceAdd,Nat.reduceMul,Nat.reduceSub,Nat.reduceLeDiff]
   exact fail_ok (k:=161) (herr _ rfl)
  | true =>
   rw [hi] at hok
   simp (disch:=(first | exact dz | fail)) only [SXB,SX,reduceIte,Int.reduceLT,Int.reduceLE,Int.reduceToNat,Int.reduceBEq,Int.reduceBNe,Nat.reduceAdd,Nat.reduceMul,Nat.reduceSub,Nat.reduceLeDiff]
   refine X24_2_ok ?_
   unfold X24_2
   simp (disch:=(first | exact dz | fail)) only [SXB,SX,reduceIte,Int.reduceLT,Int.reduceLE,Int.reduceToNat,Int.reduceBEq,Int.reduceBNe,Nat.reduceAdd,Nat.reduceMul,Nat.reduceSub,Nat.reduceLeDiff]
   refine take_ok S fun h' S' a=>?_
   exact hok _ _ rfl S' a
end Go.Proofs.YtnaenhkldanjbaaDoor.L
end
section
namespace Go.Proofs.YtnaenhkldanjbaaDoor.L
open Go.Ab Go.Lang Go.Proofs.YtnaenhkldanjbaaDoor.X
set_option maxRecDepth 100000
variable {ow:Bool}
abbrev LS:=R (List Tok)
def erOf {α:Type}:R α→Nat × Nat
 | .ok _=>(0,0)
 | .error f=>f
def rcells (T:List Tok) (i:Nat) (bv:Value) (b l c:Nat) (f:Nat × Nat):Array Value:=#[VSl (T.map encT),.int .i64 i,bv,.int .i64 b,.int .i64 l,.int .i64 c,.int .i64 f.1,.int .i64 f.2]
def rrow (T:List Tok) (i:Nat) (bv:Value) (b l c:Nat) (f:Nat × Nat):Option (Obj × Option Nat):=some (.cells (rcells T i bv b l c f) 63 (0,0),none)
def AtS (T:List Tok) (i:Nat):LS→Prop
 | .ok ts=>T.drop i=ts
 | .error f=>f.1 ≠ 0
structure RSg ow (h:AH) (kp:Nat) (T:List Tok) (i:Nat) (st:LS) (bv:Value) (vs:List Var) (b l c:Nat):Prop where
 row:h.get kp=rrow T i bv b l c (erOf st)
 own:Bnd ow 65 2 h bv (vs.map encV)
 ne:blkOf bv ≠ some kp
 lt:kp < h.size
 ltb:∀ k,blkOf bv=some k→k < h.size
 ilt:i < T.length
 ok:TokOK T
 len:T.length ≤ 5000
 at_:AtS T i st
abbrev RS:=RSg true
theorem RSg.adv {h h':AH} {kp i i':Nat} {T:List Tok} {st st':LS} {bv:Value} {vs:List Var} {b l c b' l' c':Nat} (S:RSg ow h kp T i st bv vs b l c) (a:Adv kp h h') (hr:h'.get kp=rrow T i' bv b' l' c' (erOf st')) (hi:i' < T.length) (ha:AtS T i' st'):RSg ow h' kp T i' st' bv vs b' l' c' :=
 ⟨hr,S.own.mono fun k hk=>a.get k (S.ltb k hk) (fun e=>S.ne (by rw [hk,e])),S.ne,Nat.lt_of_lt_of_le S.lt a.size,fun k hk=>Nat.lt_of_lt_of_le (S.ltb k hk) a.size,hi,S.ok,S.len,ha⟩
theorem RSg.same {h h':AH} {kp i:Nat} {T:List Tok} {st:LS} {bv:Value} {vs:List Var} {b l c:Nat} (S:RSg ow h kp T i st bv vs b l c) (K:Kp h.size h h'):RSg ow h' kp T i st bv vs b l c :=
 S.adv ⟨K.size,fun k h1 _=>K.get k h1⟩ ((K.get kp S.lt).trans S.row) S.ilt S.at_
theorem RSg.push {h:AH} {kp i:Nat} {T:List Tok} {st:LS} {bv:Value} {vs:List Var} {b l c:Nat} (S:RSg ow h kp T i st bv vs b l c) (o:Obj) (s:Option Nat):RSg ow (h.push o s) kp T i st bv vs b l c:=S.same ((Kp.refl _ _).push o s (Nat.le_refl _))
theorem RSg.off {h:AH} {kp i q:Nat} {T:List Tok} {st:LS} {bv:Value} {vs:List Var} {b l c:Nat} (S:RSg ow h kp T i st bv vs b l c) (o:Option (Obj × Option Nat)) (hq:q ≠ kp) (hb:∀ k,blkOf bv=some k→k ≠ q):RSg ow (h.put q o) kp T i st bv vs b l c :=
 ⟨(get_put_ne hq.symm).trans S.row,S.own.mono fun k hk=>get_put_ne (hb k hk),S.ne,by simpa using S.lt,fun k hk=>by simpa using S.ltb k hk,S.ilt,S.ok,S.len,S.at_⟩
theorem RSg.put {h:AH} {kp i i':Nat} {T:List Tok} {st st':LS} {bv:Value} {vs:List Var} {b l c b' l' c':Nat} (S:RSg ow h kp T i st bv vs b l c) (hi:i' < T.length) (ha:AtS T i' st'):RSg ow (h.put kp (rrow T i' bv b' l' c' (erOf st'))) kp T i' st' bv vs b' l' c' :=
 S.adv ((Adv.refl _ _).put _ _ (.inl rfl)) (get_put_eq rfl) hi ha
theorem RSg.live {h:AH} {kp i:Nat} {T ts:List Tok} {bv:Value} {vs:List Var} {b l c:Nat} (S:RSg ow h kp T i (.ok ts) bv vs b l c):h.get kp=some (.cells #[VSl (T.map encT),.int .i64 i,bv,.int .i64 b,.int .i64 l,.int .i64 c,.int .i64 0,.int .i64 0] 63 (0,0),none):=S.row
theorem RSg.dead {h:AH} {kp i:Nat} {T:List Tok} {f:Nat × Nat} {bv:Value} {vs:List Var} {b l c:Nat} (S:RSg ow h kp T i (.error f) bv vs b l c):h.get kp=some (.cells #[VSl (T.map encT),.int .i64 i,bv,.int .i64 b,.int .i64 l,.int .i64 c,.int .i64 f.1,.int .i64 f.2] 63 (0,0),none)∧((f.1:Int) == 0)=false :=
 ⟨S.row,by have:f.1 ≠ 0:=S.at_;simp;omega⟩
theorem RSg.any {h:AH} {kp i:Nat} {T:List Tok} {st:LS} {bv:Value} {vs:List Var} {b l c:Nat} (S:RSg ow h kp T i st bv vs b l c):h.get kp=some (.cells #[VSl (T.map encT),.int .i64 i,bv,.int .i64 b,.int .i64 l,.int .i64 c,.int .i64 (erOf st).1,.int .i64 (erOf st).2] 63 (0,0),none):=S.row
theorem RSg.tok {h:AH} {kp i:Nat} {T:List Tok} {st:LS} {bv:Value} {vs:List Var} {b l c:Nat} (S:RSg ow h kp T i st bv vs b l c):∃ t,T[i]?=some t:=⟨T[i]'S.ilt,List.getElem?_eq_getElem S.ilt⟩
theorem TokOK.drop {T:List Tok} (h:TokOK T):∀ {i:Nat},i < T.length→TokOK (T.drop i):=by
 induction h with
 | one e h ht ha =>
  intro i hi
  obtain rfl:i=0:=by simpa using hi
  exact .one e h ht ha
 | cons hg hs ih =>
  intro i hi
  cases i with
  | zero=>exact .cons hg hs
  | succ i=>exact ih (by simpa using hi)
theorem RSg.okl {h:AH} {kp i:Nat} {T ts:List Tok} {bv:Value} {vs:List Var} {b l c:Nat} (S:RSg ow h kp T i (.ok ts) bv vs b l c):TokOK ts:=by
 have:T.drop i=ts:=S.at_
 rw [← this];exact TokOK.drop S.ok S.ilt
theorem ia_at {n i:Nat} {l:List Value} {a:Value} (h:l[i]?=some a) (ha:a.cells.size=n):ia n (VSl l) (.int .i64 (i:Nat))=some (FPv a.cells):=by
 rw [ia_vs,if_pos (by omega)]
 simp [h,ha]
theorem tok_ok {h:AH} {kp i:Nat} {T:List Tok} {st:LS} {bv:Value} {vs:List Var} {b l c:Nat} {t:Tok} (S:RSg ow h kp T i st bv vs b l c) (ht:T[i]?=some t):Ex Tryd.prog 18 [.pointer (some ⟨kp,0,none⟩)].toArray h (encT t) h:=by
 refine Ex.pureF (below_T _ t) (X18_ok ?_)
 unfold X18
 have hlt:=S.lt
 have hr:=S.any
 have e:=ia_at (n:=3) (l:=T.map encT) (i:=i) (a:=encT t) (by simp [ht]) rfl
 simp (disch:=(first | exact dz | fail)) only [hr,e,encT,SXB,SX,reduceIte,Int.reduceLT,Int.reduceLE,Int.reduceToNat,Int.reduceBEq,Int.reduceBNe,Nat.reduceAdd,Nat.reduceMul,Nat.reduceSub,Nat.reduceLeDiff]
 (repeat (first | exact Kp.refl _ _ | assumption | refine Kp.push ?_ _ _ (by first | omega | (simp only [sz_push,sz_put];omega)) | refine Kp.put ?_ _ _ (by first | omega | (simp only [sz_push,sz_put];omega))))
def isS:LS→Nat→ByteArray→Bool
 | .ok ts,k,x=>isT ts k x
 | .error _,_,_=>false
theorem risT {h:AH} {kp i:Nat} {T:List Tok} {st:LS} {bv:Value} {vs:List Var} {b l c:Nat} (S:RSg ow h kp T i st bv vs b l c) (k:Nat) (x:ByteArray) :
  Ex Tryd.prog 15 [.pointer (some ⟨kp,0,none⟩),.int .i64 (k:Int),.string x].toArray h (.bool (isS st k x)) h:=by
 refine X15_ok ?_
 unfold X15
 cases st with
 | error f =>
  obtain ⟨hr,e⟩:=S.dead
  simp (disch:=(first | exact dz | fail)) only [hr,e,isS,SXB,SX,reduceIte,Int.reduceLT,Int.reduceLE,Int.reduceToNat,Int.reduceBEq,Int.reduceBNe,Nat.reduceAdd,Nat.reduceMul,Nat.reduceSub,Nat.reduceLeDiff]
 | ok ts =>
  have hr:=S.live
  obtain ⟨t,ht⟩:=S.tok
  have hd:T.drop i=ts:=S.at_
  obtain ⟨r,rfl⟩:∃ r,ts=t::r:=by
   rw [← hd,List.drop_eq_getElem_cons S.ilt]
   rw [List.getElem?_eq_getElem S.ilt] at ht
   exact ⟨_,by rw [Option.some.inj ht]⟩
  have e0:((0:Int) == 0)=true:=rfl
  simp (disch:=(first | exact dz | fail)) only [hr,e0,SXB,SX,reduceIte,Int.reduceLT,Int.reduceLE,Int.reduceToNat,Int.reduceBEq,Int.reduceBNe,Nat.reduceAdd,Nat.reduceMul,Nat.reduceSub,Nat.reduceLeDiff]
  refine HC.exact (tok_ok S ht) ?_
  simp only [isS,isT,eqT]
  simp (disch:=(first | exact dz | fail)) only [encT,int_beq,SXB,SX,reduceIte,Int.reduceLT,Int.reduceLE,Int.reduceToNat,Int.reduceBEq,Int.reduceBNe,Nat.reduceAdd,Nat.reduceMul,Nat.reduceSub,Nat.reduceLeDiff]
  cases t.cls == k with
  | false =>
   simp (disch:=(first | exact dz | fail)) only [SXB,SX,reduceIte,Int.reduceLT,Int.reduceLE,Int.reduceToNat,Int.reduceBEq,Int.reduceBNe,Nat.reduceAdd,Nat.reduceMul,Nat.reduceSub,Nat.reduceLeDiff]
  | true =>
   simp (disch:=(first | exact dz | fail)) only [SXB,SX,reduceIte,Int.reduceLT,Int.reduceLE,Int.reduceToNat,Int.reduceBEq,Int.reduceBNe,Nat.reduceAdd,Nat.reduceMul,Nat.reduceSub,Nat.reduceLeDiff]
   refine HC.exact (tok_ok S ht) ?_
   simp (disch:=(first | exact dz | fail)) only [encT,SXB,SX,reduceIte,Int.reduceLT,Int.reduceLE,Int.reduceToNat,Int.reduceBEq,Int.reduceBNe,Nat.reduceAdd,Nat.reduceMul,Nat.reduceSub,Nat.reduceLeDiff]
def failS (e a:Nat):LS→LS
 | .ok _=>.error (e,a)
 | .error f=>.error f
theorem rfail_ok {h:AH} {kp i:Nat} {T:List Tok} {st:LS} {bv:Value} {vs:List Var} {b l c:Nat} {Q:RQ} (S:RSg ow h kp T i st bv vs b l c) (e a:Nat) (he:e ≠ 0)
  (hq:∀ h',RSg ow h' kp T i (failS e a st) bv vs b l c→Adv kp h h'→Q (.ret (.tuple #[])) h'):HC Tryd.prog 19 [.pointer (some ⟨kp,0,none⟩),.int .i64 (e:Int),.int .i64 (a:Int)].toArray h Q:=by
 refine X19_ok ?_
 unfold X19
 cases st with
 | error f =>
  obtain ⟨hr,e⟩:=S.dead
  simp (disch:=(first | exact dz | fail)) only [hr,e,SXB,SX,reduceIte,Int.reduceLT,Int.reduceLE,Int.reduceToNat,Int.reduceBEq,Int.reduceBNe,Nat.reduceAdd,Nat.reduceMul,Nat.reduceSub,Nat.reduceLeDiff]
  exact hq _ S (.refl _ _)
 | ok ts =>
  have hr:=S.live
  have e0:((0:Int) == 0)=true:=rfl
  simp (disch:=(first | exact dz | fail)) only [hr,e0,SXB,SX,reduceIte,Int.reduceLT,Int.reduceLE,Int.reduceToNat,Int.reduceBEq,Int.reduceBNe,Nat.reduceAdd,Nat.reduceMul,Nat.reduceSub,Nat.reduceLeDiff]
  refine hq _ (S.adv ?_ ?_ S.ilt he) ?_
  ·(repeat (first | exact Adv.refl _ _ | assumption | refine Adv.push ?_ _ _ | refine Adv.put ?_ _ _ (by first | exact .inl rfl | (right;first | omega | (simp only [sz_push,sz_put];omega)))))
  ·simp (disch:=(first | exact dz | fail)) only [SXB,SX,reduceIte,Int.reduceLT,Int.reduceLE,Int.reduceToNat,Int.reduceBEq,Int.reduceBNe,Nat.reduceAdd,Nat.reduceMul,Nat.reduceSub,Nat.reduceLeDiff]
   rfl
  ·(repeat (first | exact Adv.refl _ _ | assumption | refine Adv.push ?_ _ _ | refine Adv.put ?_ _ _ (by first | exact .inl rfl | (right;first | omega | (simp only [sz_push,sz_put];omega)))))
def tailS:LS→LS
 | .ok ts=>.ok ts.tail
 | .error f=>.error f
theorem rnext_ok {h:AH} {kp i:Nat} {T:List Tok} {st:LS} {bv:Value} {vs:List Var} {b l c:Nat} {Q:RQ} (S:RSg ow h kp T i st bv vs b l c) (hne:∀ ts,st=.ok ts→ts.tail ≠ [])
  (hq:∀ h' i',RSg ow h' kp T i' (tailS st) bv vs b l c→Adv kp h h'→Q (.ret (.tuple #[])) h'):HC Tryd.prog 16 [.pointer (some ⟨kp,0,none⟩)].toArray h Q:=by
 refine X16_ok ?_
 unfold X16
 cases st with
 | error f =>
  obtain ⟨hr,e⟩:=S.dead
  simp (disch:=(first | exact dz | fail)) only [hr,e,SXB,SX,reduceIte,Int.reduceLT,Int.reduceLE,Int.reduceToNat,Int.reduceBEq,Int.reduceBNe,Nat.reduceAdd,Nat.reduceMul,Nat.reduceSub,Nat.reduceLeDiff]
  exact hq _ _ S (.refl _ _)
 | ok ts =>
  have hr:=S.live
  have e0:((0:Int) == 0)=true:=rfl
  have hd:T.drop i=ts:=S.at_
  have hne:=hne ts rfl
  have hlen:=S.len
  have hilt:i + 1 < T.length:=by
   have h1:ts.tail=T.drop (i + 1):=by rw [← hd];simp
   rw [h1] at hne
   have:=List.length_pos_iff.2 hne
   simp at this;omega
  have e1:IntKind.i64.wrap ((T.length:Int) - 1)=((T.length - 1:Nat):Int):=by rw [wrap64 (by omega) (by omega)];omega
  have e2:(i:Int) < ((T.length - 1:Nat):Int):=by omega
  have e3:IntKind.i64.wrap ((i:Int) + 1)=((i + 1:Nat):Int):=by rw [wrap64 (by omega) (by omega)];omega
  simp (disch:=(first | exact dz | fail)) only [hr,e0,e1,e2,e3,List.length_map,SXB,SX,reduceIte,Int.reduceLT,Int.reduceLE,Int.reduceToNat,Int.reduceBEq,Int.reduceBNe,Nat.reduceAdd,Nat.reduceMul,Nat.reduceSub,Nat.reduceLeDiff]
  refine hq _ (i + 1) (S.adv ?_ ?_ hilt ?_) ?_
  ·(repeat (first | exact Adv.refl _ _ | assumption | refine Adv.push ?_ _ _ | refine Adv.put ?_ _ _ (by first | exact .inl rfl | (right;first | omega | (simp only [sz_push,sz_put];omega)))))
  ·simp (disch:=(first | exact dz | fail)) only [SXB,SX,reduceIte,Int.reduceLT,Int.reduceLE,Int.reduceToNat,Int.reduceBEq,Int.reduceBNe,Nat.reduceAdd,Nat.reduceMul,Nat.reduceSub,Nat.reduceLeDiff]
   rfl
  ·show T.drop (i + 1)=ts.tail
   rw [← hd];simp
  ·(repeat (first | exact Adv.refl _ _ | assumption | refine Adv.push ?_ _ _ | refine Adv.put ?_ _ _ (by first | exact .inl rfl | (right;first | omega | (simp only [sz_push,sz_put];omega)))))
def wantS (k:Nat) (x:ByteArray) (st:LS):LS:=st.bind (Lang.want k x)
theorem rwant_ok {h:AH} {kp i:Nat} {T:List Tok} {st:LS} {bv:Value} {vs:List Var} {b l c:Nat} {Q:RQ} (S:RSg ow h kp T i st bv vs b l c) (k:Nat) (x:ByteArray) (hk:k ≠ 0)
  (hq:∀ h' i',RSg ow h' kp T i' (wantS k x st) bv vs b l c→Adv kp h h'→Q (.ret (.tuple #[])) h'):HC Tryd.prog 13 [.pointer (some ⟨kp,0,none⟩),.int .i64 (k:Int),.string x].toArray h Q:=by
 refine X13_ok ?_
 unfold X13
 simp (disch:=(first | exact dz | fail)) only [SXB,SX,reduceIte,Int.reduceLT,Int.reduceLE,Int.reduceToNat,Int.reduceBEq,Int.reduceBNe,Nat.reduceAdd,Nat.reduceMul,Nat.reduceSub,Nat.reduceLeDiff]
 refine HC.exact (risT S k x) ?_
 cases hi:isS st k x with
 | false =>
  simp (disch:=(first | exact dz | fail)) only [SXB,SX,reduceIte,Int.reduceLT,Int.reduceLE,Int.reduceToNat,Int.reduceBEq,Int.reduceBNe,Nat.reduceAdd,Nat.reduceMul,Nat.reduceSub,Nat.reduceLeDiff]
  obtain ⟨t,ht⟩:=S.tok
  refine HC.exact (tok_ok S ht) ?_
  simp (disch:=(first | exact dz | fail)) only [encT,SXB,SX,reduceIte,Int.reduceLT,Int.reduceLE,Int.reduceToNat,Int.reduceBEq,Int.reduceBNe,Nat.reduceAdd,Nat.reduceMul,Nat.reduceSub,Nat.reduceLeDiff]
  refine rfail_ok S 161 t.at_ (by omega) fun h' S' a=>?_
  simp (disch:=(first | exact dz | fail)) only [SXB,SX,reduceIte,Int.reduceLT,Int.reduceLE,Int.reduceToNat,Int.reduceBEq,Int.reduceBNe,Nat.reduceAdd,Nat.reduceMul,Nat.reduceSub,Nat.reduceLeDiff]
  refine hq _ i ?_ a
  cases st with
  | error f=>exact S'
  | ok ts =>
   have hd:T.drop i=ts:=S.at_
   have e:wantS k x (.ok ts)=.error (161,t.at_):=by
    have hh:headAt ts=t.at_:=by
     rw [← hd,List.drop_eq_getElem_cons S.ilt]
     rw [List.getElem?_eq_getElem S.ilt] at ht
     rw [← Option.some.inj ht];rfl
    show Lang.want k x ts=_
    unfold Lang.want
    rw [show isT ts k x=false from hi,hh];rfl
   rw [e];exact S'
 | true =>
  simp (disch:=(first | exact dz | fail)) only [SXB,SX,reduceIte,Int.reduceLT,Int.reduceLE,Int.reduceToNat,Int.reduceBEq,Int.reduceBNe,Nat.reduceAdd,Nat.reduceMul,Nat.reduceSub,Nat.reduceLeDiff]
  cases st with
  | error f=>cases hi
  | ok ts =>
   have hi:isT ts k x=true:=hi
   have sh:=isT_shr hi hk S.okl
   refine rnext_ok S (fun ts' e=>by cases e;exact sh.1.ne) fun h' i' S' a=>?_
   simp (disch:=(first | exact dz | fail)) only [SXB,SX,reduceIte,Int.reduceLT,Int.reduceLE,Int.reduceToNat,Int.reduceBEq,Int.reduceBNe,Nat.reduceAdd,Nat.reduceMul,Nat.reduceSub,Nat.reduceLeDiff]
   refine hq _ i' ?_ a
   have e:wantS k x (.ok ts)=.ok ts.tail:=by
    show Lang.want k x ts=_
    unfold Lang.want
    rw [hi];rfl
   rw [e];exact S'
end Go.Proofs.YtnaenhkldanjbaaDoor.L
end
section
namespace Go.Proofs
open Go.Shelf
def Tryd.lays137_ren:Go.Shelf.Ren:=⟨fun | 137=>20 | 217=>35 | 266=>43 | n=>n,fun | 9=>9 | 5=>5 | 3=>3 | n=>n,fun | n=>n⟩
theorem Tryd.lays137:Go.Proofs.Lays.n137 Tryd.prog Tryd.lays137_ren:={
 mixed:=by kernel_rfl
 f137:=Tryd.func20.trans (congrArg some (by kernel_rfl))
 f217:=Tryd.func35.trans (congrArg some (by kernel_rfl))
 f266:=Tryd.func43.trans (congrArg some (by kernel_rfl))
 t3:=Tryd.underlying3
 a3:=Tryd.isAgg3
 z3:=Tryd.sizeOf3
 v3:=Tryd.zeroValue3
 t5:=Tryd.underlying5
 a5:=Tryd.isAgg5
 z5:=Tryd.sizeOf5
 v5:=Tryd.zeroValue5
 t9:=Tryd.underlying9
 a9:=Tryd.isAgg9
 z9:=Tryd.sizeOf9
 v9:=Tryd.zeroValue9 }
open Go.RowKit in
theorem Tryd.strings_IndexByte (s:ByteArray) (c:Int) (w:World) :
  Calls Tryd.prog 20 #[.string s,.int .u8 c] w fun e w'=>e=.returned (.int .i64 (Lib.indexByte s.data.toList c.toNat.toUInt8))∧w' = w:=Any.strings_IndexByte Tryd.lays137 s c w
def Tryd.lays144_ren:Go.Shelf.Ren:=⟨fun | 144=>51 | 143=>59 | 219=>64 | 217=>35 | 225=>68 | 224=>69 | 267=>70 | 266=>43 | 314=>72 | n=>n,fun | 9=>9 | 4=>4 | 3=>3 | 5=>5 | 46=>127 | 146=>141 | 51=>140 | n=>n,fun | 1=>0 | n=>n⟩
theorem Tryd.lays144:Go.Proofs.Lays.n144 Tryd.prog Tryd.lays144_ren:={
 mixed:=by kernel_rfl
 f143:=Tryd.func59.trans (congrArg some (by kernel_rfl))
 f144:=Tryd.func51.trans (congrArg some (by kernel_rfl))
 f217:=Tryd.func35.trans (congrArg some (by kernel_rfl))
 f219:=Tryd.func64.trans (congrArg some (by kernel_rfl))
 f224:=Tryd.func69.trans (congrArg some (by kernel_rfl))
 f225:=Tryd.func68.trans (congrArg some (by kernel_rfl))
 f266:=Tryd.func43.trans (congrArg some (by kernel_rfl))
 f267:=Tryd.func70.trans (congrArg some (by kernel_rfl))
 f314:=Tryd.func72.trans (congrArg some (by kernel_rfl))
 t3:=Tryd.underlying3
 a3:=Tryd.isAgg3
 z3:=Tryd.sizeOf3
 v3:=Tryd.zeroValue3
 t4:=Tryd.underlying4
 a4:=Tryd.isAgg4
 z4:=Tryd.sizeOf4
 v4:=Tryd.zeroValue4
 t5:=Tryd.underlying5
 a5:=Tryd.isAgg5
 z5:=Tryd.sizeOf5
 v5:=Tryd.zeroValue5
 t9:=Tryd.underlying9
 a9:=Tryd.isAgg9
 z9:=Tryd.sizeOf9
 v9:=Tryd.zeroValue9
 t46:=Tryd.underlying127
 a46:=Tryd.isAgg127
 z46:=Tryd.sizeOf127
 v46:=Tryd.zeroValue127
 t51:=Tryd.underlying140
 a51:=Tryd.isAgg140
 z51:=Tryd.sizeOf140
 v51:=Tryd.zeroValue140
 t146:=Tryd.underlying141
 a146:=Tryd.isAgg141
 z146:=Tryd.sizeOf141
 v146:=Tryd.zeroValue141
 g1:=by kernel_rfl }
open Go.RowKit Go.Lib in
theorem Tryd.strings_Contains (s sub:ByteArray) (m:Int) (w:World) (hs:s.size < 4294967281) (hm:w.cell? ⟨0,0,none⟩=some (.int .i64 m)) :
  Calls Tryd.prog 51 #[.string s,.string sub] w fun e w'=>e=.returned (.bool (Lib.contains s.data.toList sub.data.toList))∧w' = w:=Any.strings_Contains Tryd.lays144 s sub m w hs hm
def Tryd.laysM219_ren:Go.Shelf.Ren:=⟨fun | 219=>64 | 217=>35 | 225=>68 | 224=>69 | 267=>70 | 266=>43 | 314=>72 | n=>n,fun | 9=>9 | 3=>3 | 4=>4 | 5=>5 | 46=>127 | 146=>141 | 51=>140 | n=>n,fun | 1=>0 | n=>n⟩
theorem Tryd.laysM219:Go.Proofs.LaysM.n219 Tryd.prog Tryd.laysM219_ren:={
 mixed:=by kernel_rfl
 f217:=Tryd.func35.trans (congrArg some (by kernel_rfl))
 f219:=Tryd.func64.trans (congrArg some (by kernel_rfl))
 f224:=Tryd.func69.trans (congrArg some (by kernel_rfl))
 f225:=Tryd.func68.trans (congrArg some (by kernel_rfl))
 f266:=Tryd.func43.trans (congrArg some (by kernel_rfl))
 f267:=Tryd.func70.trans (congrArg some (by kernel_rfl))
 f314:=Tryd.func72.trans (congrArg some (by kernel_rfl))
 t3:=Tryd.underlying3
 a3:=Tryd.isAgg3
 z3:=Tryd.sizeOf3
 v3:=Tryd.zeroValue3
 t4:=Tryd.underlying4
 a4:=Tryd.isAgg4
 z4:=Tryd.sizeOf4
 v4:=Tryd.zeroValue4
 t5:=Tryd.underlying5
 a5:=Tryd.isAgg5
 z5:=Tryd.sizeOf5
 v5:=Tryd.zeroValue5
 t9:=Tryd.underlying9
 a9:=Tryd.isAgg9
 z9:=Tryd.sizeOf9
 v9:=Tryd.zeroValue9
 t46:=Tryd.underlying127
 a46:=Tryd.isAgg127
 z46:=Tryd.sizeOf127
 v46:=Tryd.zeroValue127
 t51:=Tryd.underlying140
 a51:=Tryd.isAgg140
 z51:=Tryd.sizeOf140
 v51:=Tryd.zeroValue140
 t146:=Tryd.underlying141
 a146:=Tryd.isAgg141
 z146:=Tryd.sizeOf141
 v146:=Tryd.zeroValue141
 g1:=by kernel_rfl
 i3:=by kernel_rfl
 i4:=by kernel_rfl
 i5:=by kernel_rfl
 i9:=by kernel_rfl
 i46:=by kernel_rfl
 i51:=by kernel_rfl
 i146:=by kernel_rfl
 m1:=by kernel_rfl
 s1_3:=fun w h=>Go.Proofs.cell_of_shapedOpen_int (zero:=#[.int .i64 0]) (t:=3) h (of_decide_eq_true (by kernel_rfl)) (by kernel_rfl) rfl (by kernel_rfl) (by kernel_rfl) Tryd.underlying3 }
end Go.Proofs
end
section
namespace Go.Proofs.YtnaenhkldanjbaaDoor.X
open Go.Ab
set_option maxRecDepth 100000
noncomputable def code45:Code:=match Tryd.f45.body with | some c=>c | none=>.skip
noncomputable def res45:List ResultVar:=Tryd.f45.results.toList
def L45:Nat→Option (List Nat):=fun r=>none
noncomputable def X45 (t0:Value) (h:AH) (Q:RQ):Prop :=
 let t2:Value:=(Value.int .i64 0)
 let t3:Value:=Value.nilIface
 let t7:Value:=t0
 HC Tryd.prog 49 (([]:List Value)++[t7]++([]:List Value)).toArray h (resK (fun t8 h =>
 let t6:Value:=t8
 bq (opExtract t6 0) fun t9 =>
 bq (opExtract t6 1) fun t10 =>
 let t4:Value:=t9
 let t5:Value:=t10
 let t11:Value:=t5
 bq (binV Tryd.prog .neq 103 (.tmp 11) (.const Value.nilIface) t11 Value.nilIface h) fun t12 =>
 condP (some t12)
 (let t13:Value:=t4
 let t14:Value:=t0
 let t15:Value:=t5
 HC Tryd.prog 50 (([]:List Value)++[(Value.string (ByteArray.mk #[65,116,111,105])),t14,(Value.int .i64 0),(Value.int .i64 0),t15]++([]:List Value)).toArray h (resK (fun t16 h =>
 let t2:Value:=t13
 let t3:Value:=t16
 Q (.ret (.tuple [t2,t3].toArray)) h) (fun v h=>Q (.pan v) h)))
 (let t17:Value:=t4
 let t2:Value:=t17
 let t3:Value:=Value.nilIface
 Q (.ret (.tuple [t2,t3].toArray)) h)) (fun v h=>Q (.pan v) h))
theorem X45_eq (t0:Value) (h:AH) (Q:RQ):X45 t0 h Q=wpC Tryd.prog L45 code45 (argA [t0] Tryd.f45.ntmps) h (retK Tryd.prog res45 Q):=by kernel_rfl
theorem X45_body:Tryd.f45.body=some code45:=by kernel_rfl
theorem X45_ok {t0:Value} {h:AH} {Q:RQ} (H:X45 t0 h Q):HC Tryd.prog 45 [t0].toArray h Q:=HC.body Tryd.func45 X45_body ((X45_eq t0 h Q).mp H)
noncomputable def code49:Code:=match Tryd.f49.body with | some c=>c | none=>.skip
noncomputable def res49:List ResultVar:=Tryd.f49.results.toList
def L49:Nat→Option (List Nat):=fun r=>if r=8 then some [0,5] else if r=10 then some [5,6,47,48,49] else if r=19 then some [6] else none
noncomputable def J49_8 (t0 t5:Value) (h:AH) (Q:RQ):Prop:=wpC Tryd.prog L49 (cAt code49 [.r,.r,.l,.r,.l,.r,.r]) (mkA 77 [(0,t0),(5,t5)]) h (ctxAt Tryd.prog L49 code49 [.r,.r,.l,.r,.l,.r,.r] (retK Tryd.prog res49 Q))
noncomputable def K49_8 (t0 t5:Value) (h:AH) (Q:RQ):Prop:=(ctxAt Tryd.prog L49 code49 [.r,.r,.l,.r,.l,.r,.l] (retK Tryd.prog res49 Q)) .normal (mkA 77 [(0,t0),(5,t5)]) h
theorem K49_8_eq (t0 t5:Value) (h:AH) (Q:RQ):J49_8 t0 t5 h Q=K49_8 t0 t5 h Q:=join_eq (p:=[.r,.r,.l,.r,.l,.r]) (code:=code49) (by kernel_rfl) (by kernel_rfl)
noncomputable def H49_10 (t5 t6 t47 t48 t49:Value) (h:AH) (Q:RQ):Prop:=HL Tryd.prog (cAt code49 [.r,.r,.l,.r,.l,.r,.r,.r,.l,.r,.i,.i]) (mkA 77 [(5,t5),(6,t6),(47,t47),(48,t48),(49,t49)]) h (ctxAt Tryd.prog L49 code49 [.r,.r,.l,.r,.l,.r,.r,.r,.l,.r,.i] (retK Tryd.prog res49 Q))
noncomputable def J49_19 (t6:Value) (h:AH) (Q:RQ):Prop:=wpC Tryd.prog L49 (cAt code49 [.r,.r,.l,.r,.l,.r,.r,.r,.r,.r]) (mkA 77 [(6,t6)]) h (ctxAt Tryd.prog L49 code49 [.r,.r,.l,.r,.l,.r,.r,.r,.r,.r] (retK Tryd.prog res49 Q))
noncomputable def K49_19 (t6:Value) (h:AH) (Q:RQ):Prop:=(ctxAt Tryd.prog L49 code49 [.r,.r,.l,.r,.l,.r,.r,.r,.r,.l] (retK Tryd.prog res49 Q)) .normal (mkA 77 [(6,t6)]) h
theorem K49_19_eq (t6:Value) (h:AH) (Q:RQ):J49_19 t6 h Q=K49_19 t6 h Q:=join_eq (p:=[.r,.r,.l,.r,.l,.r,.r,.r,.r]) (code:=code49) (by kernel_rfl) (by kernel_rfl)
noncomputable def X49_19 (t6:Value) (h:AH) (Q:RQ):Prop :=
 let t69:Value:=t6
 let t2:Value:=t69
 let t3:Value:=Value.nilIface
 Q (.ret (.tuple [t2,t3].toArray)) h
theorem X49_19_eq (t6:Value) (h:AH) (Q:RQ):X49_19 t6 h Q=wpC Tryd.prog L49 (cAt code49 [.r,.r,.l,.r,.l,.r,.r,.r,.r,.r]) (mkA 77 [(6,t6)]) h (ctxAt Tryd.prog L49 code49 [.r,.r,.l,.r,.l,.r,.r,.r,.r,.r] (retK Tryd.prog res49 Q)):=by kernel_rfl
theorem X49_19_ok {t6:Value} {h:AH} {Q:RQ} (H:X49_19 t6 h Q):K49_19 t6 h Q:=(K49_19_eq t6 h Q).mp (((X49_19_eq t6 h Q).mp H))
noncomputable def X49_10 (t5 t6 t47 t48 t49:Value) (h:AH) (Q:RQ):Prop :=
 bq (binV Tryd.prog .lss 3 (.tmp 49) (.tmp 48) t49 t48 h) fun t50 =>
 condP (some t50)
 (bq (ia 1 t47 t49) fun t51 =>
 bq (ld1 h t51) fun t52 =>
 let t8:Value:=t52
 let t53:Value:=t8
 bq (binV Tryd.prog .sub 5 (.tmp 53) (.const (Value.int .u8 48)) t53 (Value.int .u8 48) h) fun t54 =>
 let t8:Value:=t54
 let t55:Value:=t8
 bq (binV Tryd.prog .gtr 5 (.tmp 55) (.const (Value.int .u8 9)) t55 (Value.int .u8 9) h) fun t56 =>
 condP (some t56)
 (bq (mi 116 (Value.int .i64 2)) fun t57 =>
 let t2:Value:=(Value.int .i64 0)
 let t3:Value:=t57
 Q (.ret (.tuple [t2,t3].toArray)) h)
 (let t58:Value:=t6
 bq (binV Tryd.prog .mul 3 (.tmp 58) (.const (Value.int .i64 10)) t58 (Value.int .i64 10) h) fun t59 =>
 let t60:Value:=t8
 bq (convV Tryd.prog 5 3 t60 h) fun r=>(fun t61 h =>
 bq (binV Tryd.prog .add 3 (.tmp 59) (.tmp 61) t59 t61 h) fun t62 =>
 let t6:Value:=t62
 bq (binV Tryd.prog .add 3 (.tmp 49) (.const (Value.int .i64 1)) t49 (Value.int .i64 1) h) fun t63 =>
 let t49:Value:=t63
 H49_10 t5 t6 t47 t48 t49 h Q) r.1 r.2))
 (let t64:Value:=t5
 bq (ixS t64 (Value.int .i64 0)) fun t65 =>
 bq (binV Tryd.prog .eql 5 (.tmp 65) (.const (Value.int .u8 45)) t65 (Value.int .u8 45) h) fun t66 =>
 condP (some t66)
 (let t67:Value:=t6
 bq (unV Tryd.prog .neg t67) fun t68 =>
 let t6:Value:=t68
 K49_19 t6 h Q)
 (K49_19 t6 h Q))
theorem X49_10_eq (t5 t6 t47 t48 t49:Value) (h:AH) (Q:RQ):X49_10 t5 t6 t47 t48 t49 h Q=wpC Tryd.prog L49 (cAt code49 [.r,.r,.l,.r,.l,.r,.r,.r,.l,.r,.i,.i]) (mkA 77 [(5,t5),(6,t6),(47,t47),(48,t48),(49,t49)]) h (ctxAt Tryd.prog L49 code49 [.r,.r,.l,.r,.l,.r,.r,.r,.l,.r,.i,.i] (retK Tryd.prog res49 Q)):=by kernel_rfl
theorem X49_10_ok {t5 t6 t47 t48 t49:Value} {h:AH} {Q:RQ} (H:X49_10 t5 t6 t47 t48 t49 h Q):H49_10 t5 t6 t47 t48 t49 h Q:=HL.step (L:=L49) ((X49_10_eq t5 t6 t47 t48 t49 h Q).mp H)
noncomputable def X49_8 (t0 t5:Value) (h:AH) (Q:RQ):Prop :=
 let t6:Value:=(Value.int .i64 0)
 let t46:Value:=t0
 bq (convV Tryd.prog 9 90 t46 h) fun r=>(fun t47 h =>
 bq (lenL t47) fun t48 =>
 let t49:Value:=(Value.int .i64 0)
 H49_10 t5 t6 t47 t48 t49 h Q) r.1 r.2
theorem X49_8_eq (t0 t5:Value) (h:AH) (Q:RQ):X49_8 t0 t5 h Q=wpC Tryd.prog L49 (cAt code49 [.r,.r,.l,.r,.l,.r,.r]) (mkA 77 [(0,t0),(5,t5)]) h (ctxAt Tryd.prog L49 code49 [.r,.r,.l,.r,.l,.r,.r] (retK Tryd.prog res49 Q)):=by kernel_rfl
theorem X49_8_ok {t0 t5:Value} {h:AH} {Q:RQ} (H:X49_8 t0 t5 h Q):K49_8 t0 t5 h Q:=(K49_8_eq t0 t5 h Q).mp (((X49_8_eq t0 t5 h Q).mp H))
noncomputable def X49 (t0:Value) (h:AH) (Q:RQ):Prop :=
 let t2:Value:=(Value.int .i64 0)
 let t3:Value:=Value.nilIface
 let t11:Value:=t0
 bq (lenS t11) fun t12 =>
 let t4:Value:=t12
 let t13:Value:=(Value.bool false)
 guardQ t13 true h (fun k=>k t4 h) fun t14 h =>
 guardQ t13 true h (fun k=>bq (binV Tryd.prog .lss 3 (.const (Value.int .i64 0)) (.tmp 14) (Value.int .i64 0) t14 h) fun v=>k v h) fun t15 h =>
 guardQ t13 true h (fun k=>k t15 h) fun t16 h =>
 guardQ t16 true h (fun k=>k t4 h) fun t17 h =>
 guardQ t16 true h (fun k=>bq (binV Tryd.prog .lss 3 (.tmp 17) (.const (Value.int .i64 10)) t17 (Value.int .i64 10) h) fun v=>k v h) fun t18 h =>
 guardQ t13 true h (fun k=>bq (pickV t16 t18 (Value.bool false)) fun v=>k v h) fun t19 h =>
 bq (pickV t13 t19 (Value.bool false)) fun t20 =>
 let t21:Value:=t20
 guardQ t21 false h (fun k=>k (Value.bool true) h) fun t22 h =>
 guardQ t22 true h (fun k=>k t4 h) fun t23 h =>
 guardQ t22 true h (fun k=>bq (binV Tryd.prog .lss 3 (.const (Value.int .i64 0)) (.tmp 23) (Value.int .i64 0) t23 h) fun v=>k v h) fun t24 h =>
 guardQ t22 true h (fun k=>k t24 h) fun t25 h =>
 guardQ t25 true h (fun k=>k t4 h) fun t26 h =>
 guardQ t25 true h (fun k=>bq (binV Tryd.prog .lss 3 (.tmp 26) (.const (Value.int .i64 19)) t26 (Value.int .i64 19) h) fun v=>k v h) fun t27 h =>
 guardQ t22 true h (fun k=>bq (pickV t25 t27 (Value.bool false)) fun v=>k v h) fun t28 h =>
 guardQ t21 false h (fun k=>bq (pickV t22 t28 (Value.bool false)) fun v=>k v h) fun t29 h =>
 bq (pickV t21 (Value.bool true) t29) fun t30 =>
 condP (some t30)
 (let t31:Value:=t0
 let t5:Value:=t31
 let t32:Value:=t0
 bq (ixS t32 (Value.int .i64 0)) fun t33 =>
 bq (binV Tryd.prog .eql 5 (.tmp 33) (.const (Value.int .u8 45)) t33 (Value.int .u8 45) h) fun t34 =>
 let t35:Value:=t34
 guardQ t35 false h (fun k=>k t0 h) fun t36 h =>
 guardQ t35 false h (fun k=>bq (ixS t36 (Value.int .i64 0)) fun v=>k v h) fun t37 h =>
 guardQ t35 false h (fun k=>bq (binV Tryd.prog .eql 5 (.tmp 37) (.const (Value.int .u8 43)) t37 (Value.int .u8 43) h) fun v=>k v h) fun t38 h =>
 bq (pickV t35 (Value.bool true) t38) fun t39 =>
 condP (some t39)
 (let t40:Value:=t0
 bq (sliceV Tryd.prog h 9 t40 (some (Value.int .i64 1)) none) fun t41 =>
 let t0:Value:=t41
 let t42:Value:=t0
 bq (lenS t42) fun t43 =>
 bq (binV Tryd.prog .lss 3 (.tmp 43) (.const (Value.int .i64 1)) t43 (Value.int .i64 1) h) fun t44 =>
 condP (some t44)
 (bq (mi 116 (Value.int .i64 2)) fun t45 =>
 let t2:Value:=(Value.int .i64 0)
 let t3:Value:=t45
 Q (.ret (.tuple [t2,t3].toArray)) h)
 (K49_8 t0 t5 h Q))
 (K49_8 t0 t5 h Q))
 (let t71:Value:=t0
 HC Tryd.prog 54 (([]:List Value)++[t71,(Value.int .i64 10),(Value.int .i64 0)]++([]:List Value)).toArray h (resK (fun t72 h =>
 let t70:Value:=t72
 bq (opExtract t70 0) fun t73 =>
 bq (opExtract t70 1) fun t74 =>
 let t9:Value:=t73
 let t10:Value:=t74
 let t75:Value:=t9
 let t76:Value:=t10
 let t2:Value:=t75
 let t3:Value:=t76
 Q (.ret (.tuple [t2,t3].toArray)) h) (fun v h=>Q (.pan v) h)))
theorem X49_eq (t0:Value) (h:AH) (Q:RQ):X49 t0 h Q=wpC Tryd.prog L49 code49 (argA [t0] Tryd.f49.ntmps) h (retK Tryd.prog res49 Q):=by kernel_rfl
theorem X49_body:Tryd.f49.body=some code49:=by kernel_rfl
theorem X49_ok {t0:Value} {h:AH} {Q:RQ} (H:X49 t0 h Q):HC Tryd.prog 49 [t0].toArray h Q:=HC.body Tryd.func49 X49_body ((X49_eq t0 h Q).mp H)
end Go.Proofs.YtnaenhkldanjbaaDoor.X
end
