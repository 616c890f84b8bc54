import Derived.Below
import Derived.Deep.Draws
import Derived.Lib.ItoaMem
import Derived.Lib.LaidTab
import Derived.Lib.Strings
import Derived.Shelf.LaysM
import Derived.Shelf.Small.Strs
import Derived.Shelf.Small.Utf8
import Derived.Shelf.Small.Wraps
import Derived.Shelf.Strconv.Atoi
import Derived.Shelf.Strconv.Itoa0
import Derived.Shelf.Strconv.Itoa1
import Derived.Shelf.Strconv.Itoa2
import Derived.Shelf.Strconv.Itoa3
import Derived.Shelf.Strings.AsciiSet
import Derived.Shelf.Strings.Prefix
import Derived.Shelf.Strings.Runes
import Derived.Shelf.Strings.Search1
import Derived.Shelf.Strings.Search2
import Derived.Shelf.Strings.Search3
import Derived.Shelf.Strings.Shaped
import Derived.Shelf.Strings.Trim
import Derived.Sort.Grow
import Derived.Test.YtibigfkeaemanaaGreatDoorProg
import Derived.Test.YtibigfkeaemanaaGreatDoorZ16
import Derived.Test.YtibigfkeaemanaaGreatDoorZ17
import Derived.Test.YtibigfkeaemanaaGreatDoorZ18
import Derived.Test.YtibigfkeaemanaaGreatDoorZ19
set_option linter.unusedVariables false
set_option linter.unusedSimpArgs false
section
namespace Go.Lang
open Go.Ab
def encT (t:Tok):Value:=.agg #[.int .i64 t.cls,.int .i64 t.at_,.string t.text]
def encV (v:Var):Value:=.agg #[.string v.1,.int .u8 v.2]
mutual
def encE:Expr→Value
 | .mk op a n t args=>.agg #[.string op,.int .i64 a,.int .i64 n,.string t,slV (encEs args)]
def encEs:List Expr→List Value
 | []=>[]
 | e::l=>encE e::encEs l
end
theorem encEs_eq:∀ l,encEs l=l.map encE
 | []=>rfl
 | e::l=>by rw [encEs,List.map_cons,encEs_eq l]
def celE:Expr→List Value
 | .mk op a n t args=>[.string op,.int .i64 a,.int .i64 n,.string t,slV (encEs args)]
theorem encE_eq (e:Expr):encE e=.agg (celE e).toArray:=by cases e;rw [encE];rfl
theorem celE_len (e:Expr):(celE e).length=5:=by cases e;rfl
mutual
def encS:Stmt→Value
 | .mk op x a b body els=>.agg (([.string op,.string x]:List Value)++celE a++celE b++[slV (encSs body),slV (encSs els)]).toArray
def encSs:List Stmt→List Value
 | []=>[]
 | e::l=>encS e::encSs l
end
theorem encSs_eq:∀ l,encSs l=l.map encS
 | []=>rfl
 | e::l=>by rw [encSs,List.map_cons,encSs_eq l]
def celS:Stmt→List Value
 | .mk op x a b body els=>([.string op,.string x]:List Value)++celE a++celE b++[slV (encSs body),slV (encSs els)]
theorem encS_eq (e:Stmt):encS e=.agg (celS e).toArray:=by cases e;rw [encS];rfl
theorem celS_len (e:Stmt):(celS e).length=14:=by cases e;simp [celS,celE_len]
def celP (p:Prog):List Value:=[slV (encSs p.map),slV (encSs p.combine),slV (encSs p.reduce),.bool p.combines,.bool p.parts]++celE p.part
theorem celE_one (e:Expr):∀ v ∈ celE e,v.oneCell' = true:=by
 cases e
 intro v hv
 simp only [celE,List.mem_cons,List.not_mem_nil,or_false] at hv
 rcases hv with rfl | rfl | rfl | rfl | rfl
 ·rfl
 ·rfl
 ·rfl
 ·rfl
 ·exact one_slV _
theorem celS_one (s:Stmt):∀ v ∈ celS s,v.oneCell' = true:=by
 cases s
 intro v hv
 simp only [celS,List.mem_append,List.mem_cons,List.not_mem_nil,or_false] at hv
 rcases hv with (((rfl | rfl) | h) | h) | rfl | rfl
 ·rfl
 ·rfl
 ·exact celE_one _ v h
 ·exact celE_one _ v h
 ·exact one_slV _
 ·exact one_slV _
theorem encE_cells (e:Expr):(encE e).cells=(celE e).toArray:=by rw [encE_eq];rfl
theorem encS_cells (s:Stmt):(encS s).cells=(celS s).toArray:=by rw [encS_eq];rfl
theorem encEs_size (l:List Expr):∀ v ∈ encEs l,v.cells.size=5:=by
 rw [encEs_eq]
 intro v hv
 obtain ⟨e,_,rfl⟩:=List.mem_map.1 hv
 rw [encE_cells];simp [celE_len]
theorem encSs_size (l:List Stmt):∀ v ∈ encSs l,v.cells.size=14:=by
 rw [encSs_eq]
 intro v hv
 obtain ⟨e,_,rfl⟩:=List.mem_map.1 hv
 rw [encS_cells];simp [celS_len]
theorem encTs_size (l:List Tok):∀ v ∈ l.map encT,v.cells.size=3:=fun v hv=>by
 obtain ⟨t,_,rfl⟩:=List.mem_map.1 hv
 rfl
theorem encVs_size (l:List Var):∀ v ∈ l.map encV,v.cells.size=2:=fun v hv=>by
 obtain ⟨t,_,rfl⟩:=List.mem_map.1 hv
 rfl
theorem encVs_one (l:List Var):∀ v ∈ flatC (l.map encV),v.oneCell' = true:=fun v hv=>by
 unfold flatC at hv
 obtain ⟨w,hw,hv⟩:=List.mem_flatMap.1 hv
 obtain ⟨t,_,rfl⟩:=List.mem_map.1 hw
 simp [encV,Value.cells] at hv
 rcases hv with rfl | rfl <;> rfl
end Go.Lang
end
section
namespace Go.Proofs.YtibigfkeaemanaaGreatDoor.L
open Go.Ab Go.Lang Go.Proofs.YtibigfkeaemanaaGreatDoor.X
set_option maxRecDepth 100000
theorem max_ite {a b:Int}:(if a < b then b else a)=max a b:=by omega
theorem min_ite {a b:Int}:(if b < a then b else a)=min a b:=by omega
theorem bound_ok {h:AH} (n:Int):Ex Tryz.prog 22 [.int .i64 n].toArray h (.int .i64 (boundV n)) h:=by
 refine X22_ok ?_
 unfold X22
 simp (disch:=(first | exact dz | fail)) only [max_ite,min_ite,SXB,SX,reduceIte,Int.reduceLT,Int.reduceLE,Int.reduceToNat,Int.reduceBEq,Int.reduceBNe,Nat.reduceAdd,Nat.reduceMul,Nat.reduceSub,Nat.reduceLeDiff]
 unfold boundV maxNum
 rfl
theorem flat_bd {P:Program} {n y:Nat} {c:BoundsCode} (h:n ≤ y):flat P (Instr.sliceBound (.int .i64 (n:Int)) y c)=some n:=by
 unfold Instr.sliceBound
 rw [flat_bind]
 show (flat P (pure (IntKind.i64,(n:Int)):Sem (IntKind × Int))).bind _=_
 rw [flat_pure,Option.bind_some]
 show flat P (if 0 ≤ (n:Int)∧(n:Int) ≤ y then _ else _)=_
 rw [if_pos ⟨by omega,by omega⟩]
 rfl
theorem sub_gen {P:Program} {t:TypeId} {h:AH} {s:ByteArray} {l g:Option Value} {i k:Nat} (hu:P.underlying t=some .string) (hp:(l.all plain && g.all plain)=true) (e2:flat P (Instr.sliceBounds false s.size s.size l g none)=some (i,k,s.size)):sliceV P h t (.string s) l g=some (.string (s.extract i k)):=by
 have e:flat P (Instr.sliceAt t (.string s) l g none)=some (.string (s.extract i k)):=by
  unfold Instr.sliceAt
  rw [flat_bind,flat_und hu,Option.bind_some]
  show flat P (Instr.slice t (.string s) l g none)=_
  unfold Instr.slice
  rw [flat_bind,flat_und hu,Option.bind_some]
  show flat P (Instr.sliceBounds false s.size s.size l g none >>= _)=_
  rw [flat_bind,e2,Option.bind_some]
  rfl
 show (if l.all plain && g.all plain then flatV P (Instr.sliceAt t (.string s) l g none) else none)=_
 rw [hp,if_pos rfl]
 unfold flatV
 rw [e]
 rfl
theorem sub_hi {h:AH} {s:ByteArray} {k:Nat} (hi:k ≤ s.size):sliceV Tryz.prog h 9 (.string s) none (some (.int .i64 (k:Int)))=some (.string (s.extract 0 k)):=by
 refine sub_gen (by kernel_rfl) rfl ?_
 unfold Instr.sliceBounds
 rw [flat_bind,flat_pure,Option.bind_some]
 show flat _ (Instr.sliceBound (.int .i64 k) s.size _ >>= _)=_
 rw [flat_bind,flat_bd hi,Option.bind_some]
 rfl
theorem sub_lo {h:AH} {s:ByteArray} {i:Nat} (hi:i ≤ s.size):sliceV Tryz.prog h 9 (.string s) (some (.int .i64 (i:Int))) none=some (.string (s.extract i s.size)):=by
 refine sub_gen (by kernel_rfl) rfl ?_
 unfold Instr.sliceBounds
 rw [flat_bind,flat_pure,Option.bind_some]
 show flat _ (pure s.size >>= _)=_
 rw [flat_bind,flat_pure,Option.bind_some]
 show flat _ (Instr.sliceBound (.int .i64 i) s.size _ >>= _)=_
 rw [flat_bind,flat_bd hi,Option.bind_some]
 rfl
theorem sub_mid {h:AH} {s:ByteArray} {i k:Nat} (h1:i ≤ k) (h2:k ≤ s.size):sliceV Tryz.prog h 9 (.string s) (some (.int .i64 (i:Int))) (some (.int .i64 (k:Int)))=some (.string (s.extract i k)):=by
 refine sub_gen (by kernel_rfl) rfl ?_
 unfold Instr.sliceBounds
 rw [flat_bind,flat_pure,Option.bind_some]
 show flat _ (Instr.sliceBound (.int .i64 k) s.size _ >>= _)=_
 rw [flat_bind,flat_bd h2,Option.bind_some]
 show flat _ (Instr.sliceBound (.int .i64 i) k _ >>= _)=_
 rw [flat_bind,flat_bd h1,Option.bind_some]
 rfl
theorem cell_ok {h:AH} (s:ByteArray):Ex Tryz.prog 52 [.string s].toArray h (.string (cellV s)) h:=by
 refine X52_ok ?_
 unfold X52
 have e:min ((s.size:Nat):Int) 4096=((min s.size 4096:Nat):Int):=by omega
 simp (disch:=(first | exact dz | fail)) only [max_ite,min_ite,e,sub_hi,SXB,SX,reduceIte,Int.reduceLT,Int.reduceLE,Int.reduceToNat,Int.reduceBEq,Int.reduceBNe,Nat.reduceAdd,Nat.reduceMul,Nat.reduceSub,Nat.reduceLeDiff]
 rfl
theorem bit_ok {h:AH} (b:Bool):Ex Tryz.prog 37 [.bool b].toArray h (.int .i64 (bitV b)) h:=by
 refine X37_ok ?_
 unfold X37
 cases b with
 | false =>
  simp (disch:=(first | exact dz | fail)) only [SXB,SX,reduceIte,Int.reduceLT,Int.reduceLE,Int.reduceToNat,Int.reduceBEq,Int.reduceBNe,Nat.reduceAdd,Nat.reduceMul,Nat.reduceSub,Nat.reduceLeDiff]
  rfl
 | true =>
  simp (disch:=(first | exact dz | fail)) only [SXB,SX,reduceIte,Int.reduceLT,Int.reduceLE,Int.reduceToNat,Int.reduceBEq,Int.reduceBNe,Nat.reduceAdd,Nat.reduceMul,Nat.reduceSub,Nat.reduceLeDiff]
  rfl
def NumOK (n:Int):Prop:=-1099511627776 ≤ n∧n ≤ 1099511627776
theorem num_bound (n:Int):NumOK (boundV n):=by unfold NumOK boundV maxNum;omega
theorem plus_ok {h:AH} {a b:Int} (ha:NumOK a) (hb:NumOK b):Ex Tryz.prog 39 [.int .i64 a,.int .i64 b].toArray h (.int .i64 (a + b)) h:=by
 refine X39_ok ?_
 unfold X39
 unfold NumOK at ha hb
 simp (disch:=(first | exact dz | fail)) only [SXB,SX,reduceIte,Int.reduceLT,Int.reduceLE,Int.reduceToNat,Int.reduceBEq,Int.reduceBNe,Nat.reduceAdd,Nat.reduceMul,Nat.reduceSub,Nat.reduceLeDiff]
theorem greatest_ok {h:AH} {a b:Int}:Ex Tryz.prog 40 [.int .i64 a,.int .i64 b].toArray h (.int .i64 (max a b)) h:=by
 refine X40_ok ?_
 unfold X40
 simp (disch:=(first | exact dz | fail)) only [max_ite,min_ite,SXB,SX,reduceIte,Int.reduceLT,Int.reduceLE,Int.reduceToNat,Int.reduceBEq,Int.reduceBNe,Nat.reduceAdd,Nat.reduceMul,Nat.reduceSub,Nat.reduceLeDiff]
theorem least_ok {h:AH} {a b:Int}:Ex Tryz.prog 41 [.int .i64 a,.int .i64 b].toArray h (.int .i64 (min a b)) h:=by
 refine X41_ok ?_
 unfold X41
 simp (disch:=(first | exact dz | fail)) only [max_ite,min_ite,SXB,SX,reduceIte,Int.reduceLT,Int.reduceLE,Int.reduceToNat,Int.reduceBEq,Int.reduceBNe,Nat.reduceAdd,Nat.reduceMul,Nat.reduceSub,Nat.reduceLeDiff]
theorem wrap_mod (x:Int):∃ k:Int,IntKind.i64.wrap x=x + k * 18446744073709551616∧-9223372036854775808 ≤ IntKind.i64.wrap x∧IntKind.i64.wrap x ≤ 9223372036854775807:=by
 rw [IntKind.wrap_i64]
 refine ⟨-((x + 9223372036854775808) / 18446744073709551616),?_,?_,?_⟩ <;> omega
theorem mul_lt {a b:Int} (ha:NumOK a) (hb:NumOK b):(a * b).natAbs ≤ 1099511627776 * 1099511627776:=by
 rw [Int.natAbs_mul];unfold NumOK at ha hb;exact Nat.mul_le_mul (by omega) (by omega)
theorem product_ok {h:AH} {a b:Int} (ha:NumOK a) (hb:NumOK b):Ex Tryz.prog 36 [.int .i64 a,.int .i64 b].toArray h (.int .i64 (productV a b)) h:=by
 refine X36_ok ?_
 unfold X36
 have hab:=mul_lt ha hb
 by_cases h0:a=0
 ·subst h0
  simp (disch:=(first | exact dz | fail)) only [SXB,SX,reduceIte,Int.reduceLT,Int.reduceLE,Int.reduceToNat,Int.reduceBEq,Int.reduceBNe,Nat.reduceAdd,Nat.reduceMul,Nat.reduceSub,Nat.reduceLeDiff]
  unfold productV;rw [Int.zero_mul];rfl
 have ea:(a == 0)=false:=by simpa using h0
 by_cases h1:b=0
 ·subst h1
  have e0:((0:Int) == 0)=true:=rfl
  simp (disch:=(first | exact dz | fail)) only [ea,e0,SXB,SX,reduceIte,Int.reduceLT,Int.reduceLE,Int.reduceToNat,Int.reduceBEq,Int.reduceBNe,Nat.reduceAdd,Nat.reduceMul,Nat.reduceSub,Nat.reduceLeDiff]
  unfold productV;rw [Int.mul_zero];rfl
 have eb:(b == 0)=false:=by simpa using h1
 obtain ⟨k,hk,hk1,hk2⟩:=wrap_mod (a * b)
 have hq:∀ p:Int,(p.tdiv b).natAbs ≤ p.natAbs∧(p.tdiv b=a→(a * b).natAbs ≤ p.natAbs):=fun p=>by
  refine ⟨by rw [Int.natAbs_tdiv];exact Nat.div_le_self _ _,fun h=>?_⟩
  rw [← h,Int.natAbs_mul,Int.natAbs_tdiv]
  exact Nat.div_mul_le_self _ _
 have hc:IntKind.i64.wrap ((IntKind.i64.wrap (a * b)).tdiv b)=(IntKind.i64.wrap (a * b)).tdiv b:=by
  have h3:=(hq (IntKind.i64.wrap (a * b))).1
  apply wrap64
  ·omega
  ·by_cases h4:(IntKind.i64.wrap (a * b)).tdiv b=9223372036854775808
   ·have h5:(IntKind.i64.wrap (a * b)) = -9223372036854775808:=by omega
    rw [h5] at h4
    have h6:b.natAbs=1:=by
     have:=congrArg Int.natAbs h4
     rw [Int.natAbs_tdiv] at this
     have h7:(-9223372036854775808:Int).natAbs=9223372036854775808:=rfl
     have h8:(9223372036854775808:Int).natAbs=9223372036854775808:=rfl
     rw [h7,h8] at this
     by_cases h9:b.natAbs=1
     ·exact h9
     ·have h10:9223372036854775808 / b.natAbs < 9223372036854775808:=Nat.div_lt_self (by omega) (by omega)
      have h11:9223372036854775808 / b.natAbs=9223372036854775808:=this
      rw [h11] at h10
      exact absurd h10 (Nat.lt_irrefl _)
    have h9:(a * b).natAbs=a.natAbs:=by rw [Int.natAbs_mul,h6,Nat.mul_one]
    unfold NumOK at ha
    omega
   ·generalize (IntKind.i64.wrap (a * b)).tdiv b=q at h3 h4 ⊢
    omega
 have e1:(IntKind.i64.wrap (a * b)).tdiv b=a→boundV (IntKind.i64.wrap (a * b))=IntKind.i64.wrap (a * b)→IntKind.i64.wrap (a * b)=productV a b:=fun h3 h4=>by
  have h5:=(hq _).2 h3
  unfold productV
  unfold boundV maxNum at h4 ⊢
  omega
 have e2:¬ ((IntKind.i64.wrap (a * b)).tdiv b=a∧boundV (IntKind.i64.wrap (a * b))=IntKind.i64.wrap (a * b))→productV a b=if (decide (a < 0) == decide (b < 0))=true then 1099511627776 else -1099511627776:=fun h3=>by
  have h4:1099511627776 < (a * b).natAbs:=by
   apply Classical.byContradiction
   intro h5
   apply h3
   have h6:IntKind.i64.wrap (a * b)=a * b:=wrap64 (by omega) (by omega)
   rw [h6]
   refine ⟨Int.mul_tdiv_cancel _ h1,?_⟩
   unfold boundV maxNum;omega
  unfold productV boundV maxNum
  by_cases ha0:a < 0
  ·by_cases hb0:b < 0
   ·have:=Int.mul_pos_of_neg_of_neg ha0 hb0
    rw [if_pos (by simp [ha0,hb0])];omega
   ·have:=Int.mul_neg_of_neg_of_pos ha0 (show 0 < b by omega)
    rw [if_neg (by simp [ha0,hb0])];omega
  ·by_cases hb0:b < 0
   ·have:=Int.mul_neg_of_pos_of_neg (show 0 < a by omega) hb0
    rw [if_neg (by simp [ha0,hb0])];omega
   ·have:=Int.mul_pos (show 0 < a by omega) (show 0 < b by omega)
    rw [if_pos (by simp [ha0,hb0])];omega
 generalize hp:IntKind.i64.wrap (a * b)=p at hk hk1 hk2 hc e1 e2
 have fin:∀ c:Bool,(c=true ↔ (p.tdiv b=a∧boundV p=p))→condP (some (.bool c)) (Res.ret (.int .i64 p)=Res.ret (.int .i64 (productV a b))) (condP (some (.bool (decide (a < 0) == decide (b < 0)))) (Res.ret (.int .i64 1099511627776)=Res.ret (.int .i64 (productV a b)))
   (Res.ret (.int .i64 (-1099511627776))=Res.ret (.int .i64 (productV a b)))):=fun c hc=>by
  cases c with
  | true =>
   obtain ⟨h3,h4⟩:=hc.1 rfl
   rw [condP_true,e1 h3 h4]
  | false =>
   rw [condP_false,e2 fun h3=>by have:=hc.2 h3;cases this]
   cases decide (a < 0) == decide (b < 0)
   ·rw [condP_false];rfl
   ·rw [condP_true];rfl
 cases hqa:p.tdiv b == a with
 | false =>
  simp (disch:=(first | exact dz | fail)) only [ea,eb,h1,hp,hc,hqa,SXB,SX,reduceIte,Int.reduceLT,Int.reduceLE,Int.reduceToNat,Int.reduceBEq,Int.reduceBNe,Nat.reduceAdd,Nat.reduceMul,Nat.reduceSub,Nat.reduceLeDiff]
  have:=fin false (by simp at hqa ⊢;exact fun h=>absurd h hqa)
  rwa [condP_false] at this
 | true =>
  simp (disch:=(first | exact dz | fail)) only [ea,eb,h1,hp,hc,hqa,SXB,SX,reduceIte,Int.reduceLT,Int.reduceLE,Int.reduceToNat,Int.reduceBEq,Int.reduceBNe,Nat.reduceAdd,Nat.reduceMul,Nat.reduceSub,Nat.reduceLeDiff]
  refine HC.exact (bound_ok p) ?_
  simp (disch:=(first | exact dz | fail)) only [SXB,SX,reduceIte,Int.reduceLT,Int.reduceLE,Int.reduceToNat,Int.reduceBEq,Int.reduceBNe,Nat.reduceAdd,Nat.reduceMul,Nat.reduceSub,Nat.reduceLeDiff]
  exact fin _ (by simp at hqa ⊢;exact fun _=>hqa)
end Go.Proofs.YtibigfkeaemanaaGreatDoor.L
end
section
namespace Go.Proofs
open Go.Shelf
def Tryz.lays161_ren:Go.Shelf.Ren:=⟨fun | 161=>71 | 231=>81 | 227=>83 | 233=>84 | 235=>86 | 228=>97 | 197=>98 | 151=>99 | 260=>111 | 152=>112 | 137=>24 | 119=>122 | 224=>109 | 225=>108 | 217=>45 | 266=>58 | n=>n,fun | 9=>9 | 4=>4 | 3=>3 | 5=>5 | 117=>144 | 116=>143 | 0=>0 | 124=>147 | 105=>158 | 21=>21 | 119=>183 | 46=>109 | 139=>186 | 138=>185 | n=>n,fun | 3=>6 | 4=>7 | n=>n⟩
theorem Tryz.lays161:Go.Proofs.Lays.n161 Tryz.prog Tryz.lays161_ren:={
 mixed:=by kernel_rfl
 f119:=Tryz.func122.trans (congrArg some (by kernel_rfl))
 f137:=Tryz.func24.trans (congrArg some (by kernel_rfl))
 f151:=Tryz.func99.trans (congrArg some (by kernel_rfl))
 f152:=Tryz.func112.trans (congrArg some (by kernel_rfl))
 f161:=Tryz.func71.trans (congrArg some (by kernel_rfl))
 f197:=Tryz.func98.trans (congrArg some (by kernel_rfl))
 f217:=Tryz.func45.trans (congrArg some (by kernel_rfl))
 f224:=Tryz.func109.trans (congrArg some (by kernel_rfl))
 f225:=Tryz.func108.trans (congrArg some (by kernel_rfl))
 f227:=Tryz.func83.trans (congrArg some (by kernel_rfl))
 f228:=Tryz.func97.trans (congrArg some (by kernel_rfl))
 f231:=Tryz.func81.trans (congrArg some (by kernel_rfl))
 f233:=Tryz.func84.trans (congrArg some (by kernel_rfl))
 f235:=Tryz.func86.trans (congrArg some (by kernel_rfl))
 f260:=Tryz.func111.trans (congrArg some (by kernel_rfl))
 f266:=Tryz.func58.trans (congrArg some (by kernel_rfl))
 t0:=Tryz.underlying0
 a0:=Tryz.isAgg0
 z0:=Tryz.sizeOf0
 v0:=Tryz.zeroValue0
 t3:=Tryz.underlying3
 a3:=Tryz.isAgg3
 z3:=Tryz.sizeOf3
 v3:=Tryz.zeroValue3
 t4:=Tryz.underlying4
 a4:=Tryz.isAgg4
 z4:=Tryz.sizeOf4
 v4:=Tryz.zeroValue4
 t5:=Tryz.underlying5
 a5:=Tryz.isAgg5
 z5:=Tryz.sizeOf5
 v5:=Tryz.zeroValue5
 t9:=Tryz.underlying9
 a9:=Tryz.isAgg9
 z9:=Tryz.sizeOf9
 v9:=Tryz.zeroValue9
 t21:=Tryz.underlying21
 a21:=Tryz.isAgg21
 z21:=Tryz.sizeOf21
 v21:=Tryz.zeroValue21
 t46:=Tryz.underlying109
 a46:=Tryz.isAgg109
 z46:=Tryz.sizeOf109
 v46:=Tryz.zeroValue109
 t105:=Tryz.underlying158
 a105:=Tryz.isAgg158
 z105:=Tryz.sizeOf158
 v105:=Tryz.zeroValue158
 t116:=Tryz.underlying143
 a116:=Tryz.isAgg143
 z116:=Tryz.sizeOf143
 t117:=Tryz.underlying144
 a117:=Tryz.isAgg144
 z117:=Tryz.sizeOf144
 v117:=Tryz.zeroValue144
 t119:=Tryz.underlying183
 a119:=Tryz.isAgg183
 z119:=Tryz.sizeOf183
 t124:=Tryz.underlying147
 a124:=Tryz.isAgg147
 z124:=Tryz.sizeOf147
 v124:=Tryz.zeroValue147
 t138:=Tryz.underlying185
 a138:=Tryz.isAgg185
 z138:=Tryz.sizeOf185
 v138:=Tryz.zeroValue185
 t139:=Tryz.underlying186
 a139:=Tryz.isAgg186
 z139:=Tryz.sizeOf186
 v139:=Tryz.zeroValue186
 g3:=by kernel_rfl
 g4:=by kernel_rfl }
open Go.RowKit in
theorem Tryz.strings_TrimLeft_one (s:ByteArray) (c:UInt8) (hc:c.toNat < 128) (w:World) :
  Calls Tryz.prog 71 #[.string s,.string ⟨#[c]⟩] w fun e w'=>e=.returned (.string ⟨(Lib.trimLeftB s.data.toList c).toArray⟩)∧w' = w:=Any.strings_TrimLeft_one Tryz.lays161 s c hc w
def Tryz.lays160_ren:Go.Shelf.Ren:=⟨fun | 160=>70 | 232=>82 | 231=>81 | 227=>83 | 234=>85 | 233=>84 | 236=>87 | 235=>86 | 228=>97 | 271=>100 | 151=>99 | 197=>98 | 120=>113 | 152=>112 | 260=>111 | 137=>24 | 119=>122 | 224=>109 | 225=>108 | 217=>45 | 266=>58 | n=>n,fun | 9=>9 | 4=>4 | 3=>3 | 5=>5 | 117=>144 | 116=>143 | 0=>0 | 124=>147 | 21=>21 | 105=>158 | 46=>109 | 119=>183 | 139=>186 | 138=>185 | n=>n,fun | 3=>6 | 4=>7 | n=>n⟩
theorem Tryz.lays160:Go.Proofs.Lays.n160 Tryz.prog Tryz.lays160_ren:={
 mixed:=by kernel_rfl
 f119:=Tryz.func122.trans (congrArg some (by kernel_rfl))
 f120:=Tryz.func113.trans (congrArg some (by kernel_rfl))
 f137:=Tryz.func24.trans (congrArg some (by kernel_rfl))
 f151:=Tryz.func99.trans (congrArg some (by kernel_rfl))
 f152:=Tryz.func112.trans (congrArg some (by kernel_rfl))
 f160:=Tryz.func70.trans (congrArg some (by kernel_rfl))
 f197:=Tryz.func98.trans (congrArg some (by kernel_rfl))
 f217:=Tryz.func45.trans (congrArg some (by kernel_rfl))
 f224:=Tryz.func109.trans (congrArg some (by kernel_rfl))
 f225:=Tryz.func108.trans (congrArg some (by kernel_rfl))
 f227:=Tryz.func83.trans (congrArg some (by kernel_rfl))
 f228:=Tryz.func97.trans (congrArg some (by kernel_rfl))
 f231:=Tryz.func81.trans (congrArg some (by kernel_rfl))
 f232:=Tryz.func82.trans (congrArg some (by kernel_rfl))
 f233:=Tryz.func84.trans (congrArg some (by kernel_rfl))
 f234:=Tryz.func85.trans (congrArg some (by kernel_rfl))
 f235:=Tryz.func86.trans (congrArg some (by kernel_rfl))
 f236:=Tryz.func87.trans (congrArg some (by kernel_rfl))
 f260:=Tryz.func111.trans (congrArg some (by kernel_rfl))
 f266:=Tryz.func58.trans (congrArg some (by kernel_rfl))
 f271:=Tryz.func100.trans (congrArg some (by kernel_rfl))
 t0:=Tryz.underlying0
 a0:=Tryz.isAgg0
 z0:=Tryz.sizeOf0
 v0:=Tryz.zeroValue0
 t3:=Tryz.underlying3
 a3:=Tryz.isAgg3
 z3:=Tryz.sizeOf3
 v3:=Tryz.zeroValue3
 t4:=Tryz.underlying4
 a4:=Tryz.isAgg4
 z4:=Tryz.sizeOf4
 v4:=Tryz.zeroValue4
 t5:=Tryz.underlying5
 a5:=Tryz.isAgg5
 z5:=Tryz.sizeOf5
 v5:=Tryz.zeroValue5
 t9:=Tryz.underlying9
 a9:=Tryz.isAgg9
 z9:=Tryz.sizeOf9
 v9:=Tryz.zeroValue9
 t21:=Tryz.underlying21
 a21:=Tryz.isAgg21
 z21:=Tryz.sizeOf21
 v21:=Tryz.zeroValue21
 t46:=Tryz.underlying109
 a46:=Tryz.isAgg109
 z46:=Tryz.sizeOf109
 v46:=Tryz.zeroValue109
 t105:=Tryz.underlying158
 a105:=Tryz.isAgg158
 z105:=Tryz.sizeOf158
 v105:=Tryz.zeroValue158
 t116:=Tryz.underlying143
 a116:=Tryz.isAgg143
 z116:=Tryz.sizeOf143
 t117:=Tryz.underlying144
 a117:=Tryz.isAgg144
 z117:=Tryz.sizeOf144
 v117:=Tryz.zeroValue144
 t119:=Tryz.underlying183
 a119:=Tryz.isAgg183
 z119:=Tryz.sizeOf183
 t124:=Tryz.underlying147
 a124:=Tryz.isAgg147
 z124:=Tryz.sizeOf147
 v124:=Tryz.zeroValue147
 t138:=Tryz.underlying185
 a138:=Tryz.isAgg185
 z138:=Tryz.sizeOf185
 v138:=Tryz.zeroValue185
 t139:=Tryz.underlying186
 a139:=Tryz.isAgg186
 z139:=Tryz.sizeOf186
 v139:=Tryz.zeroValue186
 g3:=by kernel_rfl
 g4:=by kernel_rfl }
def Tryz.lays137_ren:Go.Shelf.Ren:=⟨fun | 137=>24 | 217=>45 | 266=>58 | n=>n,fun | 9=>9 | 5=>5 | 3=>3 | n=>n,fun | n=>n⟩
theorem Tryz.lays137:Go.Proofs.Lays.n137 Tryz.prog Tryz.lays137_ren:={
 mixed:=by kernel_rfl
 f137:=Tryz.func24.trans (congrArg some (by kernel_rfl))
 f217:=Tryz.func45.trans (congrArg some (by kernel_rfl))
 f266:=Tryz.func58.trans (congrArg some (by kernel_rfl))
 t3:=Tryz.underlying3
 a3:=Tryz.isAgg3
 z3:=Tryz.sizeOf3
 v3:=Tryz.zeroValue3
 t5:=Tryz.underlying5
 a5:=Tryz.isAgg5
 z5:=Tryz.sizeOf5
 v5:=Tryz.zeroValue5
 t9:=Tryz.underlying9
 a9:=Tryz.isAgg9
 z9:=Tryz.sizeOf9
 v9:=Tryz.zeroValue9 }
open Go.RowKit in
theorem Tryz.strings_IndexByte (s:ByteArray) (c:Int) (w:World) :
  Calls Tryz.prog 24 #[.string s,.int .u8 c] w fun e w'=>e=.returned (.int .i64 (Lib.indexByte s.data.toList c.toNat.toUInt8))∧w' = w:=Any.strings_IndexByte Tryz.lays137 s c w
def Tryz.lays103_ren:Go.Shelf.Ren:=⟨fun | 103=>69 | 210=>80 | 206=>96 | n=>n,fun | 9=>9 | 4=>4 | 24=>130 | 3=>3 | n=>n,fun | n=>n⟩
theorem Tryz.lays103:Go.Proofs.Lays.n103 Tryz.prog Tryz.lays103_ren:={
 mixed:=by kernel_rfl
 f103:=Tryz.func69.trans (congrArg some (by kernel_rfl))
 f206:=Tryz.func96.trans (congrArg some (by kernel_rfl))
 f210:=Tryz.func80.trans (congrArg some (by kernel_rfl))
 t3:=Tryz.underlying3
 a3:=Tryz.isAgg3
 z3:=Tryz.sizeOf3
 v3:=Tryz.zeroValue3
 t4:=Tryz.underlying4
 a4:=Tryz.isAgg4
 z4:=Tryz.sizeOf4
 v4:=Tryz.zeroValue4
 t9:=Tryz.underlying9
 a9:=Tryz.isAgg9
 z9:=Tryz.sizeOf9
 v9:=Tryz.zeroValue9
 t24:=Tryz.underlying130
 a24:=Tryz.isAgg130
 z24:=Tryz.sizeOf130
 v24:=Tryz.zeroValue130 }
open Go.RowKit in
theorem Tryz.strings_CutPrefix (s p:ByteArray) (w:World) :
  Calls Tryz.prog 69 #[.string s,.string p] w fun e w'=>e=.returned (.tuple #[.string ⟨(Lib.trimPrefix s.data.toList p.data.toList).toArray⟩,.bool (Lib.hasPrefix s.data.toList p.data.toList)])∧w' = w:=Any.strings_CutPrefix Tryz.lays103 s p w
def Tryz.lays172_ren:Go.Shelf.Ren:=⟨fun | 172=>60 | 244=>74 | 245=>75 | 247=>90 | 279=>91 | 280=>92 | 281=>93 | 282=>94 | 287=>105 | 316=>106 | 171=>56 | 205=>107 | 321=>119 | 322=>120 | 243=>73 | 246=>89 | 283=>101 | 284=>102 | 285=>103 | 286=>104 | 129=>115 | 317=>114 | 318=>116 | 319=>117 | 320=>118 | 337=>123 | 338=>124 | n=>n,fun | 9=>9 | 3=>3 | 75=>117 | 76=>118 | 4=>4 | 5=>5 | 167=>151 | 37=>80 | 0=>0 | 85=>152 | 2=>2 | 168=>154 | 53=>162 | 175=>167 | 46=>109 | 210=>170 | 127=>133 | 145=>180 | 143=>178 | 21=>21 | 171=>161 | 173=>165 | 212=>173 | 51=>72 | 20=>20 | 213=>174 | 232=>189 | 233=>190 | 80=>121 | n=>n,fun | 15=>3 | 16=>4 | 17=>5 | 18=>8 | 19=>9 | n=>n⟩
theorem Tryz.lays172:Go.Proofs.Lays.n172 Tryz.prog Tryz.lays172_ren:={
 mixed:=by kernel_rfl
 f129:=Tryz.func115.trans (congrArg some (by kernel_rfl))
 f171:=Tryz.func56.trans (congrArg some (by kernel_rfl))
 f172:=Tryz.func60.trans (congrArg some (by kernel_rfl))
 f205:=Tryz.func107.trans (congrArg some (by kernel_rfl))
 f243:=Tryz.func73.trans (congrArg some (by kernel_rfl))
 f244:=Tryz.func74.trans (congrArg some (by kernel_rfl))
 f245:=Tryz.func75.trans (congrArg some (by kernel_rfl))
 f246:=Tryz.func89.trans (congrArg some (by kernel_rfl))
 f247:=Tryz.func90.trans (congrArg some (by kernel_rfl))
 f279:=Tryz.func91.trans (congrArg some (by kernel_rfl))
 f280:=Tryz.func92.trans (congrArg some (by kernel_rfl))
 f281:=Tryz.func93.trans (congrArg some (by kernel_rfl))
 f282:=Tryz.func94.trans (congrArg some (by kernel_rfl))
 f283:=Tryz.func101.trans (congrArg some (by kernel_rfl))
 f284:=Tryz.func102.trans (congrArg some (by kernel_rfl))
 f285:=Tryz.func103.trans (congrArg some (by kernel_rfl))
 f286:=Tryz.func104.trans (congrArg some (by kernel_rfl))
 f287:=Tryz.func105.trans (congrArg some (by kernel_rfl))
 f316:=Tryz.func106.trans (congrArg some (by kernel_rfl))
 f317:=Tryz.func114.trans (congrArg some (by kernel_rfl))
 f318:=Tryz.func116.trans (congrArg some (by kernel_rfl))
 f319:=Tryz.func117.trans (congrArg some (by kernel_rfl))
 f320:=Tryz.func118.trans (congrArg some (by kernel_rfl))
 f321:=Tryz.func119.trans (congrArg some (by kernel_rfl))
 f322:=Tryz.func120.trans (congrArg some (by kernel_rfl))
 f337:=Tryz.func123.trans (congrArg some (by kernel_rfl))
 f338:=Tryz.func124.trans (congrArg some (by kernel_rfl))
 t0:=Tryz.underlying0
 a0:=Tryz.isAgg0
 z0:=Tryz.sizeOf0
 v0:=Tryz.zeroValue0
 t2:=Tryz.underlying2
 a2:=Tryz.isAgg2
 z2:=Tryz.sizeOf2
 v2:=Tryz.zeroValue2
 t3:=Tryz.underlying3
 a3:=Tryz.isAgg3
 z3:=Tryz.sizeOf3
 v3:=Tryz.zeroValue3
 t4:=Tryz.underlying4
 a4:=Tryz.isAgg4
 z4:=Tryz.sizeOf4
 v4:=Tryz.zeroValue4
 t5:=Tryz.underlying5
 a5:=Tryz.isAgg5
 z5:=Tryz.sizeOf5
 v5:=Tryz.zeroValue5
 t9:=Tryz.underlying9
 a9:=Tryz.isAgg9
 z9:=Tryz.sizeOf9
 v9:=Tryz.zeroValue9
 t20:=Tryz.underlying20
 a20:=Tryz.isAgg20
 z20:=Tryz.sizeOf20
 v20:=Tryz.zeroValue20
 t21:=Tryz.underlying21
 a21:=Tryz.isAgg21
 z21:=Tryz.sizeOf21
 v21:=Tryz.zeroValue21
 t37:=Tryz.underlying80
 a37:=Tryz.isAgg80
 z37:=Tryz.sizeOf80
 v37:=Tryz.zeroValue80
 t46:=Tryz.underlying109
 a46:=Tryz.isAgg109
 z46:=Tryz.sizeOf109
 v46:=Tryz.zeroValue109
 t51:=Tryz.underlying72
 a51:=Tryz.isAgg72
 z51:=Tryz.sizeOf72
 v51:=Tryz.zeroValue72
 t53:=Tryz.underlying162
 a53:=Tryz.isAgg162
 z53:=Tryz.sizeOf162
 v53:=Tryz.zeroValue162
 t75:=Tryz.underlying117
 a75:=Tryz.isAgg117
 z75:=Tryz.sizeOf117
 v75:=Tryz.zeroValue117
 t76:=Tryz.underlying118
 a76:=Tryz.isAgg118
 z76:=Tryz.sizeOf118
 v76:=Tryz.zeroValue118
 t85:=Tryz.underlying152
 a85:=Tryz.isAgg152
 z85:=Tryz.sizeOf152
 v85:=Tryz.zeroValue152
 t127:=Tryz.underlying133
 a127:=Tryz.isAgg133
 z127:=Tryz.sizeOf133
 v127:=Tryz.zeroValue133
 t143:=Tryz.underlying178
 a143:=Tryz.isAgg178
 z143:=Tryz.sizeOf178
 v143:=Tryz.zeroValue178
 t145:=Tryz.underlying180
 a145:=Tryz.isAgg180
 z145:=Tryz.sizeOf180
 v145:=Tryz.zeroValue180
 t167:=Tryz.underlying151
 a167:=Tryz.isAgg151
 z167:=Tryz.sizeOf151
 v167:=Tryz.zeroValue151
 t168:=Tryz.underlying154
 a168:=Tryz.isAgg154
 z168:=Tryz.sizeOf154
 v168:=Tryz.zeroValue154
 t171:=Tryz.underlying161
 a171:=Tryz.isAgg161
 z171:=Tryz.sizeOf161
 v171:=Tryz.zeroValue161
 t173:=Tryz.underlying165
 a173:=Tryz.isAgg165
 z173:=Tryz.sizeOf165
 v173:=Tryz.zeroValue165
 t175:=Tryz.underlying167
 a175:=Tryz.isAgg167
 z175:=Tryz.sizeOf167
 v175:=Tryz.zeroValue167
 t210:=Tryz.underlying170
 a210:=Tryz.isAgg170
 z210:=Tryz.sizeOf170
 v210:=Tryz.zeroValue170
 t212:=Tryz.underlying173
 a212:=Tryz.isAgg173
 z212:=Tryz.sizeOf173
 v212:=Tryz.zeroValue173
 t213:=Tryz.underlying174
 a213:=Tryz.isAgg174
 z213:=Tryz.sizeOf174
 t232:=Tryz.underlying189
 a232:=Tryz.isAgg189
 z232:=Tryz.sizeOf189
 v232:=Tryz.zeroValue189
 t233:=Tryz.underlying190
 a233:=Tryz.isAgg190
 z233:=Tryz.sizeOf190
 v233:=Tryz.zeroValue190
 g15:=by kernel_rfl
 g16:=by kernel_rfl
 g17:=by kernel_rfl
 g18:=by kernel_rfl
 g19:=by kernel_rfl }
open Go.RowKit in
theorem Tryz.strconv_Atoi (s:ByteArray) (n:Int) (hl:s.size ≤ 18) (h:Lib.atoi s.data.toList=some n) (w:World) :
  Calls Tryz.prog 60 #[.string s] w fun e w'=>e=.returned (.tuple #[.int .i64 n,.nilIface])∧∃ t,w' = Lib.bytesWorld w 5 t:=Any.strconv_Atoi Tryz.lays172 s n hl h w
def Tryz.laysM171_ren:Go.Shelf.Ren:=⟨fun | 171=>56 | 243=>73 | 246=>89 | 283=>101 | 284=>102 | 285=>103 | 286=>104 | 129=>115 | 317=>114 | 318=>116 | 319=>117 | 320=>118 | 337=>123 | 338=>124 | n=>n,fun | 3=>3 | 9=>9 | 2=>2 | 4=>4 | 171=>161 | 0=>0 | 53=>162 | 37=>80 | 5=>5 | 173=>165 | 212=>173 | 51=>72 | 20=>20 | 213=>174 | 46=>109 | 232=>189 | 233=>190 | n=>n,fun | 17=>5 | 18=>8 | 19=>9 | n=>n⟩
theorem Tryz.laysM171:Go.Proofs.LaysM.n171 Tryz.prog Tryz.laysM171_ren:={
 mixed:=by kernel_rfl
 f129:=Tryz.func115.trans (congrArg some (by kernel_rfl))
 f171:=Tryz.func56.trans (congrArg some (by kernel_rfl))
 f243:=Tryz.func73.trans (congrArg some (by kernel_rfl))
 f246:=Tryz.func89.trans (congrArg some (by kernel_rfl))
 f283:=Tryz.func101.trans (congrArg some (by kernel_rfl))
 f284:=Tryz.func102.trans (congrArg some (by kernel_rfl))
 f285:=Tryz.func103.trans (congrArg some (by kernel_rfl))
 f286:=Tryz.func104.trans (congrArg some (by kernel_rfl))
 f317:=Tryz.func114.trans (congrArg some (by kernel_rfl))
 f318:=Tryz.func116.trans (congrArg some (by kernel_rfl))
 f319:=Tryz.func117.trans (congrArg some (by kernel_rfl))
 f320:=Tryz.func118.trans (congrArg some (by kernel_rfl))
 f337:=Tryz.func123.trans (congrArg some (by kernel_rfl))
 f338:=Tryz.func124.trans (congrArg some (by kernel_rfl))
 t0:=Tryz.underlying0
 a0:=Tryz.isAgg0
 z0:=Tryz.sizeOf0
 v0:=Tryz.zeroValue0
 t2:=Tryz.underlying2
 a2:=Tryz.isAgg2
 z2:=Tryz.sizeOf2
 v2:=Tryz.zeroValue2
 t3:=Tryz.underlying3
 a3:=Tryz.isAgg3
 z3:=Tryz.sizeOf3
 v3:=Tryz.zeroValue3
 t4:=Tryz.underlying4
 a4:=Tryz.isAgg4
 z4:=Tryz.sizeOf4
 v4:=Tryz.zeroValue4
 t5:=Tryz.underlying5
 a5:=Tryz.isAgg5
 z5:=Tryz.sizeOf5
 v5:=Tryz.zeroValue5
 t9:=Tryz.underlying9
 a9:=Tryz.isAgg9
 z9:=Tryz.sizeOf9
 v9:=Tryz.zeroValue9
 t20:=Tryz.underlying20
 a20:=Tryz.isAgg20
 z20:=Tryz.sizeOf20
 v20:=Tryz.zeroValue20
 t37:=Tryz.underlying80
 a37:=Tryz.isAgg80
 z37:=Tryz.sizeOf80
 v37:=Tryz.zeroValue80
 t46:=Tryz.underlying109
 a46:=Tryz.isAgg109
 z46:=Tryz.sizeOf109
 v46:=Tryz.zeroValue109
 t51:=Tryz.underlying72
 a51:=Tryz.isAgg72
 z51:=Tryz.sizeOf72
 v51:=Tryz.zeroValue72
 t53:=Tryz.underlying162
 a53:=Tryz.isAgg162
 z53:=Tryz.sizeOf162
 v53:=Tryz.zeroValue162
 t171:=Tryz.underlying161
 a171:=Tryz.isAgg161
 z171:=Tryz.sizeOf161
 v171:=Tryz.zeroValue161
 t173:=Tryz.underlying165
 a173:=Tryz.isAgg165
 z173:=Tryz.sizeOf165
 v173:=Tryz.zeroValue165
 t212:=Tryz.underlying173
 a212:=Tryz.isAgg173
 z212:=Tryz.sizeOf173
 v212:=Tryz.zeroValue173
 t213:=Tryz.underlying174
 a213:=Tryz.isAgg174
 z213:=Tryz.sizeOf174
 t232:=Tryz.underlying189
 a232:=Tryz.isAgg189
 z232:=Tryz.sizeOf189
 v232:=Tryz.zeroValue189
 t233:=Tryz.underlying190
 a233:=Tryz.isAgg190
 z233:=Tryz.sizeOf190
 v233:=Tryz.zeroValue190
 g17:=by kernel_rfl
 g18:=by kernel_rfl
 g19:=by kernel_rfl
 i0:=by kernel_rfl
 i2:=by kernel_rfl
 i3:=by kernel_rfl
 i4:=by kernel_rfl
 i5:=by kernel_rfl
 i9:=by kernel_rfl
 i20:=by kernel_rfl
 i37:=by kernel_rfl
 i46:=by kernel_rfl
 i51:=by kernel_rfl
 i53:=by kernel_rfl
 i171:=by kernel_rfl
 i173:=by kernel_rfl
 i212:=by kernel_rfl
 i232:=by kernel_rfl
 i233:=by kernel_rfl
 m17:=by kernel_rfl
 m18:=by kernel_rfl
 m19:=by kernel_rfl }
open Go.RowKit Go.Sort Go.Lib in
theorem Tryz.strconv_Itoa (n:Int) (h0:-9223372036854775808 ≤ n) (h1:n ≤ 9223372036854775807) (w:World) (htab:Lib.TabIs Tryz.prog w "internal/strconv.uint64pow10" .u64 Lib.pow10Tab) :
  Calls Tryz.prog 56 #[.int .i64 n] w fun e w'=>e=.returned (.string ⟨(Lib.itoa n).toArray⟩)∧∃ k os,w' = grow (w.drewN k) os:=Any.strconv_Itoa Tryz.laysM171 n h0 h1 w htab
def Tryz.lays143_ren:Go.Shelf.Ren:=⟨fun | 143=>79 | 219=>95 | 217=>45 | 225=>108 | 224=>109 | 267=>110 | 266=>58 | 314=>121 | n=>n,fun | 9=>9 | 3=>3 | 4=>4 | 5=>5 | 46=>109 | 146=>181 | 51=>72 | n=>n,fun | 1=>1 | n=>n⟩
theorem Tryz.lays143:Go.Proofs.Lays.n143 Tryz.prog Tryz.lays143_ren:={
 mixed:=by kernel_rfl
 f143:=Tryz.func79.trans (congrArg some (by kernel_rfl))
 f217:=Tryz.func45.trans (congrArg some (by kernel_rfl))
 f219:=Tryz.func95.trans (congrArg some (by kernel_rfl))
 f224:=Tryz.func109.trans (congrArg some (by kernel_rfl))
 f225:=Tryz.func108.trans (congrArg some (by kernel_rfl))
 f266:=Tryz.func58.trans (congrArg some (by kernel_rfl))
 f267:=Tryz.func110.trans (congrArg some (by kernel_rfl))
 f314:=Tryz.func121.trans (congrArg some (by kernel_rfl))
 t3:=Tryz.underlying3
 a3:=Tryz.isAgg3
 z3:=Tryz.sizeOf3
 v3:=Tryz.zeroValue3
 t4:=Tryz.underlying4
 a4:=Tryz.isAgg4
 z4:=Tryz.sizeOf4
 v4:=Tryz.zeroValue4
 t5:=Tryz.underlying5
 a5:=Tryz.isAgg5
 z5:=Tryz.sizeOf5
 v5:=Tryz.zeroValue5
 t9:=Tryz.underlying9
 a9:=Tryz.isAgg9
 z9:=Tryz.sizeOf9
 v9:=Tryz.zeroValue9
 t46:=Tryz.underlying109
 a46:=Tryz.isAgg109
 z46:=Tryz.sizeOf109
 v46:=Tryz.zeroValue109
 t51:=Tryz.underlying72
 a51:=Tryz.isAgg72
 z51:=Tryz.sizeOf72
 v51:=Tryz.zeroValue72
 t146:=Tryz.underlying181
 a146:=Tryz.isAgg181
 z146:=Tryz.sizeOf181
 v146:=Tryz.zeroValue181
 g1:=by kernel_rfl }
open Go.RowKit Go.Lib in
theorem Tryz.strings_Index_one (s:ByteArray) (c:UInt8) (w:World) :
  Calls Tryz.prog 79 #[.string s,.string ⟨#[c]⟩] w fun e w'=>e=.returned (.int .i64 (Lib.indexByte s.data.toList c))∧w' = w:=Any.strings_Index_one Tryz.lays143 s c w
open Go.RowKit Go.Lib in
theorem Tryz.strings_Index (s sub:ByteArray) (m:Int) (w:World) (hs:s.size < 4294967281) (hm:w.cell? ⟨1,0,none⟩=some (.int .i64 m)) :
  Calls Tryz.prog 79 #[.string s,.string sub] w fun e w'=>e=.returned (.int .i64 (Lib.index s.data.toList sub.data.toList))∧w' = w:=Any.strings_Index Tryz.lays143 s sub m w hs hm
def Tryz.lays144_ren:Go.Shelf.Ren:=⟨fun | 144=>76 | 143=>79 | 219=>95 | 217=>45 | 225=>108 | 224=>109 | 267=>110 | 266=>58 | 314=>121 | n=>n,fun | 9=>9 | 4=>4 | 3=>3 | 5=>5 | 46=>109 | 146=>181 | 51=>72 | n=>n,fun | 1=>1 | n=>n⟩
theorem Tryz.lays144:Go.Proofs.Lays.n144 Tryz.prog Tryz.lays144_ren:={
 mixed:=by kernel_rfl
 f143:=Tryz.func79.trans (congrArg some (by kernel_rfl))
 f144:=Tryz.func76.trans (congrArg some (by kernel_rfl))
 f217:=Tryz.func45.trans (congrArg some (by kernel_rfl))
 f219:=Tryz.func95.trans (congrArg some (by kernel_rfl))
 f224:=Tryz.func109.trans (congrArg some (by kernel_rfl))
 f225:=Tryz.func108.trans (congrArg some (by kernel_rfl))
 f266:=Tryz.func58.trans (congrArg some (by kernel_rfl))
 f267:=Tryz.func110.trans (congrArg some (by kernel_rfl))
 f314:=Tryz.func121.trans (congrArg some (by kernel_rfl))
 t3:=Tryz.underlying3
 a3:=Tryz.isAgg3
 z3:=Tryz.sizeOf3
 v3:=Tryz.zeroValue3
 t4:=Tryz.underlying4
 a4:=Tryz.isAgg4
 z4:=Tryz.sizeOf4
 v4:=Tryz.zeroValue4
 t5:=Tryz.underlying5
 a5:=Tryz.isAgg5
 z5:=Tryz.sizeOf5
 v5:=Tryz.zeroValue5
 t9:=Tryz.underlying9
 a9:=Tryz.isAgg9
 z9:=Tryz.sizeOf9
 v9:=Tryz.zeroValue9
 t46:=Tryz.underlying109
 a46:=Tryz.isAgg109
 z46:=Tryz.sizeOf109
 v46:=Tryz.zeroValue109
 t51:=Tryz.underlying72
 a51:=Tryz.isAgg72
 z51:=Tryz.sizeOf72
 v51:=Tryz.zeroValue72
 t146:=Tryz.underlying181
 a146:=Tryz.isAgg181
 z146:=Tryz.sizeOf181
 v146:=Tryz.zeroValue181
 g1:=by kernel_rfl }
open Go.RowKit Go.Lib in
theorem Tryz.strings_Contains (s sub:ByteArray) (m:Int) (w:World) (hs:s.size < 4294967281) (hm:w.cell? ⟨1,0,none⟩=some (.int .i64 m)) :
  Calls Tryz.prog 76 #[.string s,.string sub] w fun e w'=>e=.returned (.bool (Lib.contains s.data.toList sub.data.toList))∧w' = w:=Any.strings_Contains Tryz.lays144 s sub m w hs hm
def Tryz.laysM219_ren:Go.Shelf.Ren:=⟨fun | 219=>95 | 217=>45 | 225=>108 | 224=>109 | 267=>110 | 266=>58 | 314=>121 | n=>n,fun | 9=>9 | 3=>3 | 4=>4 | 5=>5 | 46=>109 | 146=>181 | 51=>72 | n=>n,fun | 1=>1 | n=>n⟩
theorem Tryz.laysM219:Go.Proofs.LaysM.n219 Tryz.prog Tryz.laysM219_ren:={
 mixed:=by kernel_rfl
 f217:=Tryz.func45.trans (congrArg some (by kernel_rfl))
 f219:=Tryz.func95.trans (congrArg some (by kernel_rfl))
 f224:=Tryz.func109.trans (congrArg some (by kernel_rfl))
 f225:=Tryz.func108.trans (congrArg some (by kernel_rfl))
 f266:=Tryz.func58.trans (congrArg some (by kernel_rfl))
 f267:=Tryz.func110.trans (congrArg some (by kernel_rfl))
 f314:=Tryz.func121.trans (congrArg some (by kernel_rfl))
 t3:=Tryz.underlying3
 a3:=Tryz.isAgg3
 z3:=Tryz.sizeOf3
 v3:=Tryz.zeroValue3
 t4:=Tryz.underlying4
 a4:=Tryz.isAgg4
 z4:=Tryz.sizeOf4
 v4:=Tryz.zeroValue4
 t5:=Tryz.underlying5
 a5:=Tryz.isAgg5
 z5:=Tryz.sizeOf5
 v5:=Tryz.zeroValue5
 t9:=Tryz.underlying9
 a9:=Tryz.isAgg9
 z9:=Tryz.sizeOf9
 v9:=Tryz.zeroValue9
 t46:=Tryz.underlying109
 a46:=Tryz.isAgg109
 z46:=Tryz.sizeOf109
 v46:=Tryz.zeroValue109
 t51:=Tryz.underlying72
 a51:=Tryz.isAgg72
 z51:=Tryz.sizeOf72
 v51:=Tryz.zeroValue72
 t146:=Tryz.underlying181
 a146:=Tryz.isAgg181
 z146:=Tryz.sizeOf181
 v146:=Tryz.zeroValue181
 g1:=by kernel_rfl
 i3:=by kernel_rfl
 i4:=by kernel_rfl
 i5:=by kernel_rfl
 i9:=by kernel_rfl
 i46:=by kernel_rfl
 i51:=by kernel_rfl
 i146:=by kernel_rfl
 m1:=by kernel_rfl
 s1_3:=fun w h=>Go.Proofs.cell_of_shapedOpen_int (zero:=#[.int .i64 0]) (t:=3) h (of_decide_eq_true (by kernel_rfl)) (by kernel_rfl) rfl (by kernel_rfl) (by kernel_rfl) Tryz.underlying3 }
end Go.Proofs
end
section
namespace Go.Ab
theorem RA.eq_of_plain {E:Ren} {args args':Array Value} {n:Nat} (ra:RA E args args') (ha:args.toList.all (plainN n)=true):args' = args:=by
 apply Array.ext ra.1.symm
 intro i h1 h2
 exact RV.eq_of_plain (List.all_eq_true.1 ha _ (Array.getElem_mem_toList _)) (ra.2 i _ _ (Array.getElem?_eq_getElem h2) (Array.getElem?_eq_getElem h1))
theorem Ex.of_calls {P:Program} {f:FuncId} {args:Array Value} {v:Value} {n:Nat} {h:AH} (ha:args.toList.all (plainN n)=true) (hv:plainN n v=true) (hc:∀ w,Calls P f args w fun e w'=>e=.returned v∧w' = w):Ex P f args h v h:=by
 intro E w args' r ra
 have:=ra.eq_of_plain ha
 subst this
 refine (hc w).mono ?_
 rintro e' w' ⟨rfl,rfl⟩
 exact ⟨E,.ret v,h,(RV.of_plain hv:RV E v v),r,.refl E w',rfl,rfl⟩
theorem Ex.of_calls1 {P:Program} {f:FuncId} {args:Array Value} {v:Value} {n:Nat} {h:AH} {g:Nat} {m:Int} {c:Array Value} {e:TypeId} {fz:Nat × Nat} {so:Option Nat} (hg:g < P.globals.size) (h1:h.get g=some (.cells c e fz,so)) (h2:c[0]?=some (.int .i64 m))
  (ha:args.toList.all (plainN n)=true) (hv:plainN n v=true) (hc:∀ w,w.cell? ⟨g,0,none⟩=some (.int .i64 m)→Calls P f args w fun e w'=>e=.returned v∧w' = w):Ex P f args h v h:=by
 intro E w args' r ra
 have:=ra.eq_of_plain ha
 subst this
 obtain ⟨c',fz',g1,g2,g3,_⟩:=r.cells h1 (r.glob g hg)
 have hlt:0 < c.size:=(Array.getElem?_eq_some_iff.1 h2).1
 have h5:=g3 0 _ _ h2 (Array.getElem?_eq_getElem (by omega))
 have h6:w.cell? ⟨g,0,none⟩=some (.int .i64 m):=by
  have h7:c'[0]?=some (Value.int .i64 m):=by
   rw [Array.getElem?_eq_getElem (by omega)]
   generalize hz:c'[0]=z at h5
   cases h5
   rfl
  simp [World.cell?,g1,h7]
 refine (hc w h6).mono ?_
 rintro e' w' ⟨rfl,rfl⟩
 exact ⟨E,.ret v,h,(RV.of_plain hv:RV E v v),r,.refl E w',rfl,rfl⟩
end Go.Ab
end
section
namespace Go.Ab
theorem RW.growAll {P:Program} {E:Ren} {h:AH}:∀ (l:List Obj) {w:World},RW P E h w→RW P E h (Sort.grow w l.toArray)∧Ext E w E (Sort.grow w l.toArray):=by
 intro l
 induction l with
 | nil=>intro w r;simpa using ⟨r,Ext.refl E w⟩
 | cons o l ih =>
  intro w r
  obtain ⟨r1,x1⟩:=r.beside o
  obtain ⟨r2,x2⟩:=ih r1
  have e:Sort.grow w (o::l).toArray=Sort.grow (w.alloc o) l.toArray:=by
   rw [Sort.alloc_eq_grow,Sort.grow_grow]
   simp
  rw [e]
  exact ⟨r2,x1.trans x2⟩
theorem Ex.of_grows {P:Program} {f:FuncId} {args:Array Value} {v:Value} {n:Nat} {h:AH} (ha:args.toList.all (plainN n)=true) (hv:plainN n v=true)
  (hc:∀ E w,RW P E h w→Calls P f args w fun e w'=>e=.returned v∧∃ k os,w' = Sort.grow (w.drewN k) os):Ex P f args h v h:=by
 intro E w args' r ra
 have:=ra.eq_of_plain ha
 subst this
 refine (hc E w r).mono ?_
 rintro e' w' ⟨rfl,k,os,rfl⟩
 have r1:RW P E h (w.drewN k):=r.of_heap rfl
 have x1:Ext E w E (w.drewN k):=(Ext.refl E _).of_heap rfl rfl rfl rfl (by simp [World.drewN])
 obtain ⟨r2,x2⟩:=r1.growAll os.toList
 exact ⟨E,.ret v,h,(RV.of_plain hv:RV E v v),r2,x1.trans x2,rfl,rfl⟩
theorem RW.tabIs {P:Program} {E:Ren} {h:AH} {w:World} (r:RW P E h w) {name:String} {g:Nat} {k:IntKind} {zs:List Int} {e:TypeId} {fz:Nat × Nat} {so:Option Nat} (hn:P.globalNamed name=some g) (hg:g < P.globals.size)
  (h1:h.get g=some (.cells (zs.map fun z=>Value.int k z).toArray e fz,so)):Lib.TabIs P w name k zs:=by
 unfold Lib.TabIs World.var?
 obtain ⟨c',fz',g1,g2,g3,_⟩:=r.cells h1 (r.glob g hg)
 have hx:=r.exact h1 (r.glob g hg) g1 (r.sep.1 g hg)
 rw [hn,Option.bind_some,g1]
 simp only [Option.some.injEq]
 apply Array.ext hx.symm
 intro i a b
 have hv:=g3 i _ _ (Array.getElem?_eq_getElem b) (Array.getElem?_eq_getElem a)
 generalize hz:c'[i]=z at hv
 simp only [List.getElem_toArray,List.getElem_map] at hv ⊢
 cases hv
 rfl
theorem RW.ofBelow {P:Program} {E:Ren} {h:AH} {w w':World} (r:RW P E h w) (b:Go.RowKit.Below w.heap.size w w') (hd:w.drawn ≤ w'.drawn):RW P E h w'∧Ext E w E w':=by
 have at_:∀ n,n < w.heap.size→w'.heap[n]?=w.heap[n]?:=fun n hn=>b.block n hn
 refine ⟨⟨r.glob,fun k n hk=>⟨(r.dom k n hk).1,Nat.lt_of_lt_of_le (r.dom k n hk).2 b.size⟩,r.sdom,fun k o s hk=>?_,r.inj,fun n c hn=>?_,r.icy,r.sep⟩,
  ⟨.refl E,fun k n hk=>.inl ⟨k,hk⟩,b.size,fun n hn _=>at_ n hn,b.os,b.output,b.tape,hd,fun n hn=>?_⟩⟩
 ·obtain ⟨n,o',h1,h2,h3,h4⟩:=r.live k o s hk
  exact ⟨n,o',h1,by rw [at_ n (r.dom k n h1).2];exact h2,h3,h4⟩
 ·rw [at_ n (r.frzLt hn)];exact r.frz n c hn
 ·cases hf:E.fro n with
  | none=>rw [hf] at hn;cases hn
  | some c=>exact at_ n (r.frzLt hf)
theorem Ex.of_below {P:Program} {f:FuncId} {args:Array Value} {v:Value} {n:Nat} {h:AH} (ha:args.toList.all (plainN n)=true) (hv:plainN n v=true)
  (hc:∀ E w,RW P E h w→Calls P f args w fun e w'=>e=.returned v∧Go.RowKit.Below w.heap.size w w'∧w.drawn ≤ w'.drawn):Ex P f args h v h:=by
 intro E w args' r ra
 have:=ra.eq_of_plain ha
 subst this
 refine (hc E w r).mono ?_
 rintro e' w' ⟨rfl,hb,hd⟩
 obtain ⟨r2,x2⟩:=r.ofBelow hb hd
 exact ⟨E,.ret v,h,(RV.of_plain hv:RV E v v),r2,x2,rfl,rfl⟩
end Go.Ab
end
section
namespace Go.Lang
open Go.Lib
def itoaB (n:Int):ByteArray:=⟨(itoa n).toArray⟩
theorem u8_of {n:Nat} (h:n < 10):(UInt8.ofNat (48 + n)).toNat=48 + n:=by
 rw [UInt8.toNat_ofNat'];omega
theorem dec_len:∀ (k u:Nat),u < 10 ^ (k + 1)→(decDigits u).length ≤ k + 1:=by
 intro k
 induction k with
 | zero=>intro u h;rw [decDigits,dif_pos (by simpa using h)];simp
 | succ k ih =>
  intro u h
  by_cases h1:u < 10
  ·rw [decDigits,dif_pos h1];simp
  ·rw [decDigits,dif_neg h1,List.length_append]
   have:=ih (u / 10) (by rw [Nat.pow_succ] at h;omega)
   simp;omega
theorem eqT_iff {a b:ByteArray}:eqT a b=true ↔ a=b:=by
 unfold eqT
 rw [beq_iff_eq]
 refine ⟨fun h=>?_,fun h=>by rw [h]⟩
 rw [Go.Lib.toList_data,Go.Lib.toList_data] at h
 have h1:a.data.toList=b.data.toList:=h
 exact ByteArray.ext (Array.ext' h1)
end Go.Lang
end
