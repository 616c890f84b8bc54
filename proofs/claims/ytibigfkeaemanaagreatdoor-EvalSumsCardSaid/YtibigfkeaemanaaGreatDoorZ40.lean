import Derived.Test.YtibigfkeaemanaaGreatDoorRows
import GoSem.ClaimGoes
import GoSem.ClaimJoined
import GoSem.ClaimOpen
import Derived.Test.YtibigfkeaemanaaGreatDoorZ8
import Derived.Test.YtibigfkeaemanaaGreatDoorZ39
set_option linter.unusedVariables false
set_option linter.unusedSimpArgs false
section
namespace Go.Proofs.YtibigfkeaemanaaGreatDoor.L
open Go.Ab Go.Lang Go.Proofs.YtibigfkeaemanaaGreatDoor.X
set_option maxRecDepth 100000
theorem sums_okB:okB progSums.map=true∧oneB progSums.map=true∧needB progSums.map ≤ 1000:=⟨by kernel_rfl,by kernel_rfl,of_decide_eq_true (by kernel_rfl)⟩
theorem tmod_lt (a:Int):-100000 < a.tmod 100000∧a.tmod 100000 < 100000:=by
 have h:=Int.natAbs_tmod a 100000
 have h2:a.natAbs % (100000:Int).natAbs < 100000:=Nat.mod_lt _ (by decide)
 generalize a.tmod 100000=x at h
 omega
theorem evalSums_main {h:AH} (G:Gl h) (a b:Int):HC Tryz.prog 5 [.int .i64 a,.int .i64 b].toArray h fun r _=>∃ v,r=.ret v∧v=.bool true:=by
 refine X5_ok ?_
 unfold X5
 obtain ⟨w1,w2,w3⟩:=sums_okB
 have ha:=tmod_lt a
 have hb:=tmod_lt b
 have h10:(100000:Int) ≠ 0:=by omega
 generalize hs2:stN 2=s2
 generalize hl2:ldN 2=l2
 simp (disch:=(first | exact dz | fail)) only [SXB,SX,reduceIte,Int.reduceLT,Int.reduceLE,Int.reduceToNat,Int.reduceBEq,Int.reduceBNe,Nat.reduceAdd,Nat.reduceMul,Nat.reduceSub,Nat.reduceLeDiff]
 subst hs2 hl2
 refine HC.mono (evspeaks_ok G) fun r h0 hp=>?_
 obtain ⟨rfl,K0⟩:=hp
 have z0:=K0.size
 have G0:=G.kp K0
 generalize hs2:stN 2=s2
 generalize hl2:ldN 2=l2
 simp (disch:=(first | exact dz | fail)) only [h10,SXB,SX,reduceIte,Int.reduceLT,Int.reduceLE,Int.reduceToNat,Int.reduceBEq,Int.reduceBNe,Nat.reduceAdd,Nat.reduceMul,Nat.reduceSub,Nat.reduceLeDiff]
 subst hs2 hl2
 generalize a.tmod 100000=a at ha ⊢
 generalize b.tmod 100000=b at hb ⊢
 refine HC.mono (parse_ok G0.g) fun r h1 hp=>?_
 have hrd:=readSums
 unfold textSums at hrd
 rw [hrd] at hp
 obtain ⟨K1,q,rfl,hq,hq2,gq⟩:=hp
 have z1:=K1.size
 simp only [resK_ret]
 refine bq_of (x:=.pointer (some ⟨q,0,none⟩)) rfl ?_
 refine bq_of (x:=.agg #[.int .i64 0,.int .i64 0]) rfl ?_
 refine bq_of (stN_full (get_push_eq rfl) rfl rfl (fun z hz=>by simp [Value.cells] at hz;rcases hz with rfl | rfl <;> rfl)) ?_
 refine bq_of (ldN_full (get_put_eq rfl) rfl) ?_
 refine bq_of (x:=.bool false) bin_neq_25 ?_
 rw [condP_false]
 have gq2:=(get_put_ne (h:=h1.push (.cells #[.int .i64 0,.int .i64 0] 25 (0,0)) none) (k:=h1.size) (j:=q) (v:=some (.cells (Value.agg #[.int .i64 0,.int .i64 0]).cells 25 (0,0),none)) (by omega)).trans ((get_push_ne (by omega)).trans gq)
 have K2:Kp h0.size h0 ((h1.push (.cells #[.int .i64 0,.int .i64 0] 25 (0,0)) none).put h1.size (some (.cells (Value.agg #[.int .i64 0,.int .i64 0]).cells 25 (0,0),none))):=by (repeat (first | exact Kp.refl _ _ | assumption | refine Kp.push ?_ _ _ (by first | omega | (simp only [sz_push,sz_put];omega)) | refine Kp.put ?_ _ _ (by first | omega | (simp only [sz_push,sz_put];omega))))
 generalize ((h1.push (.cells #[.int .i64 0,.int .i64 0] 25 (0,0)) none).put h1.size (some (.cells (Value.agg #[.int .i64 0,.int .i64 0]).cells 25 (0,0),none)))=h2 at gq2 K2 ⊢
 have G2:=G0.kp K2
 refine HC.exact (text_ok a (by omega) (by omega) h2) ?_
 refine HC.exact (text_ok b (by omega) (by omega) h2) ?_
 have na:NumOK a:=by unfold NumOK;omega
 have nb:NumOK b:=by unfold NumOK;omega
 refine HC.mono (evmap_ok (M:=5000) (by omega) (by omega) w1 (.inr w2) (by omega) G2.t gq2 (key:=itoaB a) (val:=itoaB b) (by have:=itoa_size na;omega) (by have:=itoa_size nb;omega)) fun r h3 hp=>?_
 obtain ⟨ov,rfl,K3,O3,b3⟩:=hp
 rw [sums_law a b ha hb] at O3
 obtain ⟨k1,c1,cap1,sp1,rfl,r1,f1⟩:=out_row O3 (by simp)
 obtain ⟨_,_,l0⟩:=f1 0 _ _ rfl
 obtain ⟨_,_,l1⟩:=f1 1 _ _ rfl
 obtain ⟨_,_,l2⟩:=f1 2 _ _ rfl
 obtain ⟨_,_,l3⟩:=f1 3 _ _ rfl
 simp only [resK_ret]
 have e4:(((4:Nat):Int) != 4)=false:=rfl
 simp (disch:=(first | exact dz | fail)) only [e4,SXB,SX,reduceIte,Int.reduceLT,Int.reduceLE,Int.reduceToNat,Int.reduceBEq,Int.reduceBNe,Nat.reduceAdd,Nat.reduceMul,Nat.reduceSub,Nat.reduceLeDiff]
 have hab:(a * b).natAbs ≤ 100000 * 100000:=by rw [Int.natAbs_mul];exact Nat.mul_le_mul (by omega) (by omega)
 have ew:IntKind.i64.wrap (a * b)=a * b:=wrap64 (by omega) (by omega)
 have hby:(if b=0 then 0 else a.tdiv b).natAbs ≤ 100000:=by
  split
  ·simp
  ·rw [Int.natAbs_tdiv]
   exact Nat.le_trans (Nat.div_le_self _ _) (by omega)
 have p0:(0:Int) < ((4:Nat):Int):=by omega
 have p1:(1:Int) < ((4:Nat):Int):=by omega
 have p2:(2:Int) < ((4:Nat):Int):=by omega
 have p3:(3:Int) < ((4:Nat):Int):=by omega
 have bs:∀ x:ByteArray,(x.toList == x.toList)=true:=fun x=>beq_self_eq_true _
 rw [itoa_1] at l3
 have fin:K5_17 (.int .i64 a) (.int .i64 b) (.slice (some ⟨k1,0,none⟩) 4 cap1) (.int .i64 (if b=0 then 0 else a.tdiv b)) (.string (itoaB (if a < b then 1 else 0))) (.string (itoaB (if a=b then 1 else 0))) h3 fun r x=>∃ v,r=Res.ret v∧v=Value.bool true:=by
  generalize (if b=0 then 0 else a.tdiv b)=by_ at l1 hby ⊢
  generalize (if a < b then (1:Int) else 0)=less at l2 ⊢
  generalize (if a=b then (1:Int) else 0)=same at l2 ⊢
  refine X5_17_ok ?_
  unfold X5_17
  generalize hl2:ldN 2=ll at l0 l1 l2 l3
  simp (disch:=(first | exact dz | fail)) only [p0,p1,p2,p3,l0,SXB,SX,reduceIte,Int.reduceLT,Int.reduceLE,Int.reduceToNat,Int.reduceBEq,Int.reduceBNe,Nat.reduceAdd,Nat.reduceMul,Nat.reduceSub,Nat.reduceLeDiff]
  refine HC.exact (text_ok (a + b) (by omega) (by omega) h3) ?_
  simp (disch:=(first | exact dz | fail)) only [l0,SXB,SX,reduceIte,Int.reduceLT,Int.reduceLE,Int.reduceToNat,Int.reduceBEq,Int.reduceBNe,Nat.reduceAdd,Nat.reduceMul,Nat.reduceSub,Nat.reduceLeDiff]
  refine HC.exact (text_ok (a - b) (by omega) (by omega) h3) ?_
  simp (disch:=(first | exact dz | fail)) only [l0,SXB,SX,reduceIte,Int.reduceLT,Int.reduceLE,Int.reduceToNat,Int.reduceBEq,Int.reduceBNe,Nat.reduceAdd,Nat.reduceMul,Nat.reduceSub,Nat.reduceLeDiff]
  refine bq_of (x:=.agg #[.string (itoaB (a + b)),.string (itoaB (a - b))]) rfl ?_
  simp (disch:=(first | exact dz | fail)) only [bs,p0,p1,p2,p3,l1,ew,SXB,SX,reduceIte,Int.reduceLT,Int.reduceLE,Int.reduceToNat,Int.reduceBEq,Int.reduceBNe,Nat.reduceAdd,Nat.reduceMul,Nat.reduceSub,Nat.reduceLeDiff]
  refine HC.exact (text_ok (a * b) (by omega) (by omega) h3) ?_
  simp (disch:=(first | exact dz | fail)) only [l1,SXB,SX,reduceIte,Int.reduceLT,Int.reduceLE,Int.reduceToNat,Int.reduceBEq,Int.reduceBNe,Nat.reduceAdd,Nat.reduceMul,Nat.reduceSub,Nat.reduceLeDiff]
  refine HC.exact (text_ok by_ (by omega) (by omega) h3) ?_
  simp (disch:=(first | exact dz | fail)) only [l1,SXB,SX,reduceIte,Int.reduceLT,Int.reduceLE,Int.reduceToNat,Int.reduceBEq,Int.reduceBNe,Nat.reduceAdd,Nat.reduceMul,Nat.reduceSub,Nat.reduceLeDiff]
  refine bq_of (x:=.agg #[.string (itoaB (a * b)),.string (itoaB by_)]) rfl ?_
  simp (disch:=(first | exact dz | fail)) only [bs,p0,p1,p2,p3,l2,SXB,SX,reduceIte,Int.reduceLT,Int.reduceLE,Int.reduceToNat,Int.reduceBEq,Int.reduceBNe,Nat.reduceAdd,Nat.reduceMul,Nat.reduceSub,Nat.reduceLeDiff]
  refine bq_of (x:=.agg #[.string (itoaB less),.string (itoaB same)]) rfl ?_
  simp (disch:=(first | exact dz | fail)) only [bs,p0,p1,p2,p3,l3,SXB,SX,reduceIte,Int.reduceLT,Int.reduceLE,Int.reduceToNat,Int.reduceBEq,Int.reduceBNe,Nat.reduceAdd,Nat.reduceMul,Nat.reduceSub,Nat.reduceLeDiff]
  refine HC.exact (text_ok a (by omega) (by omega) h3) ?_
  simp (disch:=(first | exact dz | fail)) only [l3,SXB,SX,reduceIte,Int.reduceLT,Int.reduceLE,Int.reduceToNat,Int.reduceBEq,Int.reduceBNe,Nat.reduceAdd,Nat.reduceMul,Nat.reduceSub,Nat.reduceLeDiff]
  refine bq_of (x:=.agg #[.string (itoaB a),.string ⟨#[49]⟩]) rfl ?_
  simp (disch:=(first | exact dz | fail)) only [bs,SXB,SX,reduceIte,Int.reduceLT,Int.reduceLE,Int.reduceToNat,Int.reduceBEq,Int.reduceBNe,Nat.reduceAdd,Nat.reduceMul,Nat.reduceSub,Nat.reduceLeDiff]
  exact ⟨_,rfl,rfl⟩
 have f15:K5_15 (.int .i64 a) (.int .i64 b) (.slice (some ⟨k1,0,none⟩) 4 cap1) (.int .i64 (if b=0 then 0 else a.tdiv b)) (.string (itoaB (if a < b then 1 else 0))) (.string ⟨#[48]⟩) h3 fun r x=>∃ v,r=Res.ret v∧v=Value.bool true:=by
  refine X5_15_ok ?_
  unfold X5_15
  by_cases he:a=b
  ·rw [if_pos he,itoa_1] at fin
   have e1:(a == b)=true:=by simpa using he
   simp (disch:=(first | exact dz | fail)) only [e1,SXB,SX,reduceIte,Int.reduceLT,Int.reduceLE,Int.reduceToNat,Int.reduceBEq,Int.reduceBNe,Nat.reduceAdd,Nat.reduceMul,Nat.reduceSub,Nat.reduceLeDiff]
   exact fin
  ·rw [if_neg he,itoa_0] at fin
   have e1:(a == b)=false:=by simpa using he
   simp (disch:=(first | exact dz | fail)) only [e1,SXB,SX,reduceIte,Int.reduceLT,Int.reduceLE,Int.reduceToNat,Int.reduceBEq,Int.reduceBNe,Nat.reduceAdd,Nat.reduceMul,Nat.reduceSub,Nat.reduceLeDiff]
   exact fin
 have f13:K5_13 (.int .i64 a) (.int .i64 b) (.slice (some ⟨k1,0,none⟩) 4 cap1) (.int .i64 (if b=0 then 0 else a.tdiv b)) (.string ⟨#[48]⟩) (.string ⟨#[48]⟩) h3 fun r x=>∃ v,r=Res.ret v∧v=Value.bool true:=by
  refine X5_13_ok ?_
  unfold X5_13
  by_cases he:a < b
  ·rw [if_pos he,itoa_1] at f15
   simp (disch:=(first | exact dz | fail)) only [he,SXB,SX,reduceIte,Int.reduceLT,Int.reduceLE,Int.reduceToNat,Int.reduceBEq,Int.reduceBNe,Nat.reduceAdd,Nat.reduceMul,Nat.reduceSub,Nat.reduceLeDiff]
   exact f15
  ·rw [if_neg he,itoa_0] at f15
   simp (disch:=(first | exact dz | fail)) only [he,SXB,SX,reduceIte,Int.reduceLT,Int.reduceLE,Int.reduceToNat,Int.reduceBEq,Int.reduceBNe,Nat.reduceAdd,Nat.reduceMul,Nat.reduceSub,Nat.reduceLeDiff]
   exact f15
 by_cases h0b:b=0
 ·rw [if_pos h0b] at f13
  have e0:(b != 0)=false:=by simpa using h0b
  simp (disch:=(first | exact dz | fail)) only [e0,SXB,SX,reduceIte,Int.reduceLT,Int.reduceLE,Int.reduceToNat,Int.reduceBEq,Int.reduceBNe,Nat.reduceAdd,Nat.reduceMul,Nat.reduceSub,Nat.reduceLeDiff]
  exact f13
 ·rw [if_neg h0b] at f13 hby
  have e0:(b != 0)=true:=by simpa using h0b
  have ed:IntKind.i64.wrap (a.tdiv b)=a.tdiv b:=by
   generalize a.tdiv b=d at hby ⊢
   exact wrap64 (by omega) (by omega)
  simp (disch:=(first | exact dz | fail)) only [e0,h0b,ed,SXB,SX,reduceIte,Int.reduceLT,Int.reduceLE,Int.reduceToNat,Int.reduceBEq,Int.reduceBNe,Nat.reduceAdd,Nat.reduceMul,Nat.reduceSub,Nat.reduceLeDiff]
  exact f13
end Go.Proofs.YtibigfkeaemanaaGreatDoor.L
end
section
namespace Go.Ab
theorem any_split {α:Type} (f:α→Bool) (n:Nat) (l:List α) (h1:(l.take n).any f=false) (h2:(l.drop n).any f=false):l.any f=false:=by
 rw [← List.take_append_drop n l,List.any_append,h1,h2]
 rfl
theorem goes_none {P:Program} (h:P.funcs.toList.any Func.goes=false) {c:OpenClaim} (hs:c.start=.entering):false=c.goesBy P:=by
 have hf:∀ g:Nat,((P.funcs[g]?:Option Func).any Func.goes)=false:=by
  intro g
  cases hg:P.funcs[g]? with
  | none=>rfl
  | some fn =>
   have hm:fn ∈ P.funcs.toList:=by
    rw [← Array.getElem?_toList] at hg
    exact List.mem_of_getElem? hg
   have:=List.any_eq_false.1 h fn hm
   simpa using this
 have ha:P.funcs.any Func.goes=false:=by rw [← Array.any_toList];exact h
 have key:∀ f,P.goes f=false:=by
  intro f
  unfold Program.goes
  rw [ha]
  simp only [Bool.and_false,Bool.or_false]
  rw [List.any_eq_false]
  intro g _
  simp [hf g]
 unfold OpenClaim.goesBy Program.goesAt Program.goesFrom
 rw [hs]
 cases hn:P.funcNamed c.func with
 | none=>rfl
 | some f=>simp [key f]
end Go.Ab
end
section
namespace Go.Ab
def laidL (f:DataW Unit→Option (List Value)) (s:Nat):List (DataW Unit)→Option (List Value)
 | []=>some []
 | d::ds=>match f d,laidL f s ds with
  | some v,some vs=>if v.length=s then some (v++vs) else none
  | _,_=>none
def laidF (P:Program) (f:TypeId→DataW Unit→Option (List Value)):Nat→List Field→List (DataW Unit)→Option (List Value)
 | _,[],[]=>some []
 | off,g::gs,d::ds=>if g.offset=off then match f g.type d with
  | some v=>if v.length=P.cellsOf g.type then match laidF P f (off + v.length) gs ds with
   | some vs=>some (v++vs)
   | none=>none
   else none
  | none=>none
  else none
 | _,_,_=>none
def laidC (P:Program):Nat→TypeId→DataW Unit→Option (List Value)
 | 0,_,_=>none
 | n + 1,t,d=>match P.underlying t with
  | some (.int _)=>match d with
   | .lit (.int k x)=>some [.int k x]
   | _=>none
  | some .bool=>match d with
   | .lit (.bool b)=>some [.bool b]
   | _=>none
  | some .string=>match d with
   | .lit (.string l)=>some [.string ⟨l.toArray⟩]
   | _=>none
  | some (.array m e)=>match d with
   | .agg ds=>if P.cellsOf t=m * P.cellsOf e then laidL (laidC P n e) (P.cellsOf e) ds else none
   | _=>none
  | some (.struct fs)=>match d with
   | .agg ds=>match laidF P (laidC P n) 0 fs.toList ds with
    | some vs=>if vs.length=P.cellsOf t then some vs else none
    | none=>none
   | _=>none
  | _=>none
theorem chunks_eq {α:Type} {s:Nat}:∀ {m:Nat} {a b:List α},a.length=m * s→b.length=m * s→(∀ i,i < m→(a.drop (i * s)).take s=(b.drop (i * s)).take s)→a=b:=by
 intro m
 induction m with
 | zero =>
  intro a b ha hb _
  have e1:a=[]:=List.eq_nil_of_length_eq_zero (by simpa using ha)
  have e2:b=[]:=List.eq_nil_of_length_eq_zero (by simpa using hb)
  rw [e1,e2]
 | succ m ih =>
  intro a b ha hb h
  have h0:=h 0 (by omega)
  simp only [Nat.zero_mul,List.drop_zero] at h0
  have e:a.drop s=b.drop s:=by
   refine ih (by rw [List.length_drop,ha,Nat.succ_mul];omega) (by rw [List.length_drop,hb,Nat.succ_mul];omega) fun i hi=>?_
   have:=h (i + 1) (by omega)
   rw [List.drop_drop,List.drop_drop]
   rw [show s + i * s=(i + 1) * s by rw [Nat.succ_mul];omega]
   exact this
  rw [← List.take_append_drop s a,← List.take_append_drop s b,h0,e]
theorem laidL_eq {f:DataW Unit→Option (List Value)} {s:Nat}:∀ {ds:List (DataW Unit)} {vs:List Value},laidL f s ds=some vs→vs.length=ds.length * s∧∀ (i:Nat) d,ds[i]?=some d→∃ v,f d=some v∧(vs.drop (i * s)).take s=v:=by
 intro ds
 induction ds with
 | nil=>intro vs h;cases h;exact ⟨by simp,fun i d hd=>by simp at hd⟩
 | cons d ds ih =>
  intro vs h
  simp only [laidL] at h
  split at h
  ·rename_i v ws hv hw
   split at h
   ·rename_i hl
    cases h
    obtain ⟨h1,h2⟩:=ih hw
    refine ⟨by rw [List.length_append,List.length_cons,Nat.succ_mul];omega,fun i x hx=>?_⟩
    cases i with
    | zero =>
     simp at hx;subst hx
     exact ⟨v,hv,by simp [← hl]⟩
    | succ i =>
     obtain ⟨u,g1,g2⟩:=h2 i x (by simpa using hx)
     refine ⟨u,g1,?_⟩
     rw [show (i + 1) * s=v.length + i * s by rw [hl,Nat.succ_mul];omega,← List.drop_drop,List.drop_left]
     exact g2
   ·cases h
  ·cases h
theorem laidF_eq {P:Program} {f:TypeId→DataW Unit→Option (List Value)} {cs:List Value} {g:Field→Option (DataW Unit × List MemPlace)} (hg:∀ x y v,g x=some y→f x.type y.1=some v→v.length=P.cellsOf x.type→(cs.drop x.offset).take (P.cellsOf x.type)=v) :
  ∀ {fs:List Field} {ds:List (DataW Unit)} {off:Nat} {vs:List Value} {xs:List (DataW Unit × List MemPlace)},laidF P f off fs ds=some vs→fs.mapM g=some xs→ds=xs.map (·.1)→(cs.drop off).take vs.length=vs:=by
 intro fs
 induction fs with
 | nil =>
  intro ds off vs xs h hm hd
  cases ds with
  | nil=>simp only [laidF] at h;cases h;rfl
  | cons=>simp only [laidF] at h;cases h
 | cons x fs ih =>
  intro ds off vs xs h hm hd
  cases ds with
  | nil=>simp only [laidF] at h;cases h
  | cons d ds =>
   simp only [laidF] at h
   split at h
   case isFalse=>cases h
   rename_i hoff
   split at h
   case h_2=>cases h
   rename_i v hv
   split at h
   case isFalse=>cases h
   rename_i hl
   split at h
   case h_2=>cases h
   rename_i ws hw
   cases h
   rw [List.mapM_cons] at hm
   simp only [Option.bind_eq_bind,Option.bind_eq_some_iff,Option.pure_def,Option.some.injEq] at hm
   obtain ⟨y,hy,ys,hys,rfl⟩:=hm
   simp only [List.map_cons,List.cons.injEq] at hd
   obtain ⟨rfl,rfl⟩:=hd
   have h1:=hg x y v hy hv hl
   have h2:=ih hw hys rfl
   rw [hoff,← hl] at h1
   rw [List.length_append,List.take_add,h1,List.drop_drop]
   rw [h2]
theorem laidC_eq {P:Program} {w:World} {base:Nat} {sp:Nat→Bool} {held:Bool}:∀ (n:Nat) {fuel:Nat} {t:TypeId} {cs vs:List Value} {d:DataW Unit} {p:List MemPlace},
  laidC P n t d=some vs→DataW.trod (fun _=>()) P w base sp held fuel t cs=some (d,p)→cs=vs:=by
 intro n
 induction n with
 | zero=>intro fuel t cs vs d p h;cases h
 | succ n ih =>
  intro fuel t cs vs d p h ht
  cases fuel with
  | zero=>cases ht
  | succ fuel =>
   unfold laidC at h
   unfold DataW.trod at ht
   split at h
   ·rename_i k hu
    rw [hu] at ht
    simp only at ht
    split at ht <;> first
     | (cases ht;done)
     | skip
    ·rename_i e;cases e
    ·rename_i k1 k2 m e
     cases e
     split at ht
     ·rename_i hk
      cases ht
      simp only at h
      cases h
      rw [hk.1]
     ·cases ht
    all_goals (rename_i e;cases e)
   ·rename_i hu
    rw [hu] at ht
    simp only at ht
    split at ht <;> first
     | (cases ht;done)
     | skip
    ·cases ht;simp only at h;cases h;rfl
    all_goals (rename_i e;cases e)
   ·rename_i hu
    rw [hu] at ht
    simp only at ht
    split at ht <;> first
     | (cases ht;done)
     | skip
    all_goals first
     | (rename_i e;cases e;done)
     | skip
    split at ht
    ·cases ht
     simp only at h
     cases h
     rfl
    ·cases ht
   ·rename_i m e hu
    rw [hu] at ht
    simp only at ht
    split at ht
    ·rename_i hlen
     rw [Option.map_eq_some_iff] at ht
     obtain ⟨xs,hx,hxe⟩:=ht
     cases hxe
     simp only at h
     split at h
     case isFalse=>cases h
     rename_i hcells
     obtain ⟨h1,h2⟩:=laidL_eq h
     obtain ⟨g1,g2⟩:=mapM_get hx
     rw [List.length_range] at g1
     refine chunks_eq (m:=m) (s:=P.cellsOf e) (by rw [hlen,hcells]) (by rw [h1,List.length_map,← g1]) fun i hi=>?_
     obtain ⟨y,k1,k2⟩:=g2 i i (by rw [List.getElem?_range hi])
     obtain ⟨v,k3,k4⟩:=h2 i y.1 (by rw [List.getElem?_map,k2];rfl)
     rw [ih k3 k1,k4]
    ·cases ht
   ·rename_i fs hu
    rw [hu] at ht
    simp only at ht
    split at ht
    ·rename_i hlen
     rw [Option.map_eq_some_iff] at ht
     obtain ⟨xs,hx,hxe⟩:=ht
     cases hxe
     simp only at h
     split at h
     case h_2=>cases h
     rename_i ws hw
     split at h
     case isFalse=>cases h
     rename_i hl
     cases h
     have:=laidF_eq (cs:=cs) (fun x y v hy hv _=>ih hv hy) hw hx rfl
     rw [List.drop_zero,hl,← hlen,List.take_length] at this
     exact this
    ·cases ht
   ·cases h
def rowT (P:Program) (g:Nat):Option TypeId:=(((begin P (fun _ _=>0) default).world.heap[g]?).bind Obj.row?).map (·.2)
def laid1 (P:Program) (x:String × DataW Unit):Option (Nat × Array Value × TypeId):=match P.globalNamed x.1 with
 | some g=>match (P.globals[g]?).map (·.type) with
  | some t=>match laidC P 20 t x.2,rowT P g with
   | some vs,some e=>if vs.all plain then some (g,vs.toArray,e) else none
   | _,_=>none
  | none=>none
 | none=>none
def laidT (P:Program):List (String × DataW Unit)→T (Obj × Option Nat)
 | []=>.leaf
 | x::l=>match laid1 P x with
  | some (g,c,e)=>(laidT P l).put (g + 1) (g + 1) (some (.cells c e (0,1),none))
  | none=>laidT P l
def AH.laid (P:Program) (l:List (String × DataW Unit)):AH:=⟨laidT P l,P.globals.size,[]⟩
theorem laidT_get {P:Program} {w:World} (hv:∀ g e,rowT P g=some e→g < P.globals.size→∃ c,w.heap[g]?=some (.cells c e)):∀ {l:List (String × DataW Unit)} {ps:List MemPlace},DataW.LaidVars P w l ps →
  ∀ k o s,(laidT P l).get (k + 1)=some (o,s)→s=none∧k < P.globals.size∧∃ c e fz,o=.cells c e (0,1)∧w.heap[k]?=some (.cells c e fz)∧∀ v ∈ c.toList,plain v=true:=by
 intro l
 induction l with
 | nil=>intro ps _ k o s h;simp [laidT,T.get] at h
 | cons x l ih =>
  intro ps hl k o s h
  obtain ⟨n,d⟩:=x
  obtain ⟨g,t,cs,fuel,p,q,h1,h2,h3,h4,h5,_⟩:=hl
  simp only [laidT] at h
  split at h
  ·rename_i g' c e he
   rw [T.get_put _ _ _ _ _ (by omega) (Nat.le_refl _) (by omega)] at h
   split at h
   ·rename_i hk
    have hk':k=g':=by omega
    subst hk'
    cases h
    unfold laid1 at he
    rw [h1] at he
    simp only [h2] at he
    split at he
    case h_2=>cases he
    rename_i vs e' hvs hrow
    split at he
    case isFalse=>cases he
    rename_i hpl
    cases he
    have hlt:k < P.globals.size:=by
     cases hg:P.globals[k]? with
     | none=>rw [hg] at h2;cases h2
     | some _=>exact (Array.getElem?_eq_some_iff.1 hg).1
    obtain ⟨c',hc'⟩:=hv k e hrow hlt
    unfold World.var? at h3
    rw [h1] at h3
    simp only [Option.bind_some,hc'] at h3
    cases h3
    have:=laidC_eq 20 hvs h4
    refine ⟨rfl,hlt,vs.toArray,e,(0,0),rfl,?_,fun v hv=>List.all_eq_true.1 hpl v (by simpa using hv)⟩
    rw [hc',← this]
   ·exact ih h5 k o s h
  ·exact ih h5 k o s h
theorem rw_known {P:Program} {w:World} (hsz:P.globals.size ≤ w.heap.size) {h:AH} (hs:h.size=P.globals.size) (hget:∀ k o s,h.get k=some (o,s)→s=none∧k < P.globals.size∧∃ c e fz c',o=.cells c e (0,1) ∧
  w.heap[k]?=some (.cells c' e fz)∧c.size=c'.size∧(∀ (i:Nat) v,c[i]?=some v→c'[i]?=some v)∧∀ v ∈ c.toList,plain v=true):RW P (stillR P w) h w:=by
 have b:=rw_bare (P:=P) hsz
 refine ⟨b.glob,fun k n hk=>by rw [hs];exact b.dom k n hk,b.sdom,fun k o s hk=>?_,fun j k n hj hk gj gk=>?_,b.frz,fun k o s n hk hn hf=>?_,b.sep⟩
 ·obtain ⟨rfl,hlt,c,e,fz,c',rfl,hw,hle,hcc,hp⟩:=hget k o s hk
  refine ⟨k,_,b.glob k hlt,hw,.ice (Nat.le_of_eq hle) (fun _=>hle) fun i v v' h1 h2=>?_,rfl⟩
  rw [hcc i v h1] at h2
  cases h2
  exact RV.of_plain (hp v (List.mem_of_getElem? (by rw [Array.getElem?_toList];exact h1)))
 ·have hlj:=(b.dom j n hj).1
  have hlk:=(b.dom k n hk).1
  have e1:=b.glob j hlj
  have e2:=b.glob k hlk
  rw [hj] at e1;rw [hk] at e2
  cases e1;cases e2;rfl
 ·obtain ⟨rfl,_,c,e,fz,c',rfl,_⟩:=hget k o s hk
  rfl
theorem laid_get {P:Program} {w:World} {l:List (String × DataW Unit)} (hv:varsB P=true) (hs:w.ShapedOpen P) (hh:(l.filter fun x=>x.2.handleName?.isSome).isEmpty=true) (hl:laidMetH P l w) :
  ∀ k o s,(AH.laid P l).get k=some (o,s)→s=none∧k < P.globals.size∧∃ c e fz,o=.cells c e (0,1)∧w.heap[k]?=some (.cells c e fz)∧∀ v ∈ c.toList,plain v=true:=by
 unfold laidMetH at hl
 rw [List.isEmpty_iff] at hh
 rw [hh] at hl
 obtain ⟨ps,hl,_⟩:=hl
 exact laidT_get (P:=P) (w:=w) (fun g e he hg=>by
  have h1:=List.all_eq_true.1 hv g (List.mem_range.2 hg)
  unfold rowT at he
  rw [Option.map_eq_some_iff] at he
  obtain ⟨⟨zero,t⟩,hx,rfl⟩:=he
  obtain ⟨cs,h2,_⟩:=hs.1 g zero t hg hx
  exact ⟨cs,h2⟩) hl
def rowT1 (P:Program) (g:Nat):Option TypeId:=(((begin P (fun _ _=>0) default).world.heap[g]?).bind Obj.row?).bind fun x=>if x.1.size=1 then some x.2 else none
def AH.laidM (P:Program) (l:List (String × DataW Unit)) (g:Nat) (e:TypeId) (m:Int):AH:=(AH.laid P l).put g (some (.cells #[.int .i64 m] e (0,1),none))
theorem rw_laidM {P:Program} {w:World} {l:List (String × DataW Unit)} (hv:varsB P=true) (hs:w.ShapedOpen P) (hh:(l.filter fun x=>x.2.handleName?.isSome).isEmpty=true) (hl:laidMetH P l w) {g:Nat} {e:TypeId} {m:Int}
  (hg:g < P.globals.size) (he:rowT1 P g=some e) (hm:w.cell? ⟨g,0,none⟩=some (.int .i64 m)):RW P (stillR P w) (AH.laidM P l g e m) w :=
 rw_known (vars_size (vars_rows hv hs)) rfl fun k o s hk=>by
  unfold AH.laidM at hk
  rw [AH.get_put] at hk
  split at hk
  ·rename_i e1;subst e1;cases hk
   have h1:=List.all_eq_true.1 hv k (List.mem_range.2 hg)
   unfold rowT1 at he
   rw [Option.bind_eq_some_iff] at he
   obtain ⟨⟨zero,t⟩,hx,he⟩:=he
   split at he
   case isFalse=>cases he
   rename_i hz1
   cases he
   obtain ⟨cs,h2,hsz,_⟩:=hs.1 k zero t hg hx
   have h3:cs[0]?=some (.int .i64 m):=by simpa [World.cell?,h2] using hm
   refine ⟨rfl,hg,#[.int .i64 m],t,_,cs,rfl,h2,?_,fun i v hi=>?_,fun v hv=>?_⟩
   ·have:zero.size=1:=hz1;simp;omega
   ·cases i with
    | zero=>simp at hi;rw [← hi];exact h3
    | succ i=>simp at hi
   ·simp at hv;subst hv;rfl
  ·obtain ⟨h1,h2,c,e,fz,h3,h4,h5⟩:=laid_get hv hs hh hl k o s hk
   exact ⟨h1,h2,c,e,fz,c,h3,h4,rfl,fun _ _ h=>h,h5⟩
end Go.Ab
end
section
namespace Go.Proofs.YtibigfkeaemanaaGreatDoor.L
open Go.Ab Go.Lang Go.Proofs.YtibigfkeaemanaaGreatDoor.X
set_option maxRecDepth 100000
noncomputable def heap0 (l:List (String × DataW Unit)) (m:Int):AH:=AH.laidM Tryz.prog l 1 3 m
theorem heap0_rw {W:World} {l:List (String × DataW Unit)} (hl:laidMetH Tryz.prog l W) (hs:W.ShapedOpen Tryz.prog) (hh:(l.filter fun x=>x.2.handleName?.isSome).isEmpty=true):∃ m,RW Tryz.prog (stillR Tryz.prog W) (heap0 l m) W:=by
 obtain ⟨m,hm⟩:=Tryz.laysM219.s1_3 W hs
 exact ⟨m,rw_laidM (by kernel_rfl) hs hh hl (of_decide_eq_true (by kernel_rfl)) (by kernel_rfl) hm⟩
theorem heap0_gl (m:Int):Gl (heap0 Rows.evalSumsRow.laid m):=by
 have hm:(heap0 Rows.evalSumsRow.laid m).get 1=some (.cells #[.int .i64 m] 3 (0,1),none):=by
  unfold heap0 AH.laidM
  rw [AH.get_put,if_pos rfl]
 refine ⟨⟨⟨m,3,(0,1),none,hm⟩,?_,of_decide_eq_true (by kernel_rfl)⟩,⟨?_,⟨m,3,(0,1),none,hm⟩,of_decide_eq_true (by kernel_rfl)⟩⟩
 ·exact ⟨157,(0,1),none,by kernel_rfl⟩
 ·exact ⟨173,(0,1),none,by kernel_rfl⟩
theorem evalSums_law (m:Int) (a b:(Ty.int .i64).T) (w0:(Ty.int .i64).WF a) (w1:(Ty.int .i64).WF b):HF Tryz.prog 5 #[(Ty.int .i64).val a,(Ty.int .i64).val b] (heap0 Rows.evalSumsRow.laid m) fun v _=>v=.bool true :=
 HC.to_HF (evalSums_main (heap0_gl m) a b)
end Go.Proofs.YtibigfkeaemanaaGreatDoor.L
end
