import Derived.IntWalk
import Derived.Laws.StructEq
import Derived.Test.YtgdnfoijhdpppaaDoorZ17
set_option linter.unusedVariables false
set_option linter.unusedSimpArgs false
section
namespace Go.Ab
@[congr] theorem bq_congr {α:Type} {o o':Option α} {k:α→Prop} (e:o=o'):bq o k=bq o' k:=by rw [e]
@[congr] theorem condP_congr {o o':Option Value} {A B:Prop} (e:o=o'):condP o A B=condP o' A B:=by rw [e]
@[congr] theorem guardQ_congr {x x':Value} {w:Bool} {h:AH} {op:(Value→AH→Prop)→Prop} {k:Value→AH→Prop} (e:x=x'):guardQ x w h op k=guardQ x' w h op k:=by rw [e]
@[congr] theorem HC_congr {P:Program} {f:FuncId} {args args':Array Value} {h:AH} {Q:Res→AH→Prop} (e:args=args'):HC P f args h Q=HC P f args' h Q:=by rw [e]
@[congr] theorem exP_congr {P:Program} {f:FuncId} {args args':Array Value} {h:AH} {k:Value→AH→Prop} (e:args=args'):exP P f args h k=exP P f args' h k:=by rw [e]
@[congr] theorem callP_congr {P:Program} {f f':Value} {args:List Value} {h:AH} {k pk:Value→AH→Prop} (e:f=f'):callP P f args h k pk=callP P f' args h k pk:=by rw [e]
@[congr] theorem callX_congr {P:Program} {f f':Value} {args:List Value} {h:AH} {k:Value→AH→Prop} (e:f=f'):callX P f args h k=callX P f' args h k:=by rw [e]
@[congr] theorem invokeP_congr {P:Program} {f f':Value} {n:String} {args:List Value} {h:AH} {k pk:Value→AH→Prop} (e:f=f'):invokeP P f n args h k pk=invokeP P f' n args h k pk:=by rw [e]
@[congr] theorem invokeX_congr {P:Program} {f f':Value} {n:String} {args:List Value} {h:AH} {k:Value→AH→Prop} (e:f=f'):invokeX P f n args h k=invokeX P f' n args h k:=by rw [e]
@[congr] theorem nextP_congr {P:Program} {it it':Value} {b:Bool} {h:AH} {k:Value→AH→Prop} (e:it=it'):nextP P h it b k=nextP P h it' b k:=by rw [e]
theorem get_push_eq {h:AH} {o:Obj} {s:Option Nat} {j:Nat} (e:j=h.size):(h.push o s).get j=some (o,s):=by rw [AH.get_push,if_pos e]
theorem get_push_ne {h:AH} {o:Obj} {s:Option Nat} {j:Nat} (e:j ≠ h.size):(h.push o s).get j=h.get j:=by rw [AH.get_push,if_neg e]
theorem get_put_eq {h:AH} {k:Nat} {v:Option (Obj × Option Nat)} {j:Nat} (e:j=k):(h.put k v).get j=v:=by rw [AH.get_put,if_pos e]
theorem get_put_ne {h:AH} {k:Nat} {v:Option (Obj × Option Nat)} {j:Nat} (e:j ≠ k):(h.put k v).get j=h.get j:=by rw [AH.get_put,if_neg e]
theorem get_push_e {h:AH} {o:Obj} {s:Option Nat} {j:Nat} (e:(j == h.size)=true):(h.push o s).get j=some (o,s):=get_push_eq (by simpa using e)
theorem get_put_e {h:AH} {k:Nat} {v:Option (Obj × Option Nat)} {j:Nat} (e:(j == k)=true):(h.put k v).get j=v:=get_put_eq (by simpa using e)
theorem sz_push {h:AH} {o:Obj} {s:Option Nat}:(h.push o s).size=h.size + 1:=by rw [AH.size_push]
theorem sz_put {h:AH} {k:Nat} {v:Option (Obj × Option Nat)}:(h.put k v).size=h.size:=by rw [AH.size_put]
def rowC:Option (Obj × Option Nat)→Option (Array Value)
 | some (.cells c _ _,_)=>some c
 | _=>none
theorem rowC_cells {c:Array Value} {e:TypeId} {fz:Nat × Nat} {s:Option Nat}:rowC (some (.cells c e fz,s))=some c:=rfl
def setC (h:AH) (k off:Nat) (vs:Array Value):Option (Obj × Option Nat)→Option AH
 | some (.cells c e fz,s)=>if fz=(0,0)∧off + vs.size ≤ c.size∧vs.toList.all Value.oneCell' = true then some (h.put k (some (.cells (setFrom c off vs.toList) e (0,0),s))) else none
 | _=>none
theorem setC_cells {h:AH} {k off:Nat} {vs c:Array Value} {e:TypeId} {s:Option Nat} (h1:off + vs.size ≤ c.size) (h2:vs.toList.all Value.oneCell' = true) :
  setC h k off vs (some (.cells c e (0,0),s))=some (h.put k (some (.cells (setFrom c off vs.toList) e (0,0),s))):=by
 show (if (0,0)=((0,0):Nat × Nat)∧off + vs.size ≤ c.size∧vs.toList.all Value.oneCell' = true then _ else none)=_
 rw [if_pos ⟨rfl,h1,h2⟩]
theorem ld1_ptr {h:AH} {k off:Nat}:ld1 h (.pointer (some ⟨k,off,none⟩))=(rowC (h.get k)).bind fun c=>c[off]?:=by
 unfold ld1 opCells
 simp only [Option.isSome_none,Bool.false_eq_true,if_false]
 generalize h.get k=g
 rcases g with _ | ⟨o,s⟩
 ·rfl
 ·cases o with
  | cells c e fz =>
   show Option.bind (if off + 1 ≤ c.size then some (c.extract off (off + 1)) else none) _=c[off]?
   by_cases hle:off + 1 ≤ c.size
   ·rw [if_pos hle]
    show (c.extract off (off + 1))[0]?=_
    rw [Array.getElem?_extract,if_pos (by omega),Nat.add_zero]
   ·rw [if_neg hle,Array.getElem?_eq_none (by omega)];rfl
  | _=>rfl
theorem ld1_fp {h:AH} {d:Array Value}:ld1 h (FPv d)=d[0]?:=rfl
theorem ldN_ptr {n:Nat} {h:AH} {k off:Nat}:ldN n h (.pointer (some ⟨k,off,none⟩))=(rowC (h.get k)).bind fun c=>if off + n ≤ c.size then some (.agg (c.extract off (off + n))) else none:=by
 unfold ldN opCells
 simp only [Option.isSome_none,Bool.false_eq_true,if_false]
 generalize h.get k=g
 rcases g with _ | ⟨o,s⟩
 ·rfl
 ·cases o with
  | cells c e fz =>
   show Option.map _ (if off + n ≤ c.size then some (c.extract off (off + n)) else none)=if off + n ≤ c.size then _ else none
   by_cases hle:off + n ≤ c.size
   ·rw [if_pos hle,if_pos hle];rfl
   ·rw [if_neg hle,if_neg hle];rfl
  | _=>rfl
theorem ldN_fp {n:Nat} {h:AH} {d:Array Value}:ldN n h (FPv d)=if n ≤ d.size then some (.agg (d.extract 0 n)) else none:=rfl
theorem stN_ptr {n:Nat} {h:AH} {k off:Nat} {v:Value}:stN n h (.pointer (some ⟨k,off,none⟩)) v=if v.cells.size=n then setC h k off v.cells (h.get k) else none:=by
 unfold stN opSetCells
 simp only [Option.isSome_none,Bool.false_eq_true,if_false]
 congr 1
theorem fa_ptr {off n k o:Nat}:fa off n (.pointer (some ⟨k,o,none⟩))=some (.pointer (some ⟨k,o + off,none⟩)):=by
 simp only [fa,Option.isSome_none,Bool.false_eq_true,if_false,add_off]
theorem fa_fp {off n:Nat} {d:Array Value}:fa off n (FPv d)=if off + n ≤ d.size then some (FPv (d.extract off (off + n))) else none:=rfl
theorem fd1_agg {off:Nat} {c:Array Value}:fd1 off (.agg c)=c[off]?:=rfl
theorem fdN_agg {off n:Nat} {c:Array Value}:fdN off n (.agg c)=some (.agg (c.extract off (off + n))):=rfl
theorem ia_vs {n:Nat} {l:List Value} {k:IntKind} {i:Int}:ia n (VSl l) (.int k i)=if 0 ≤ i then (l[i.toNat]?).bind (fun v=>if v.cells.size=n then some (FPv v.cells) else none) else none:=by
 show (if 0 ≤ i then (match l.toArray[i.toNat]? with | some v=>if v.cells.size=n then some (FPv v.cells) else none | none=>none) else none)=_
 rw [List.getElem?_toArray]
 split
 ·cases l[i.toNat]? <;> rfl
 ·rfl
theorem ia_sl {n b o len cap:Nat} {k:IntKind} {i:Int}:ia n (.slice (some ⟨b,o,none⟩) len cap) (.int k i)=if 0 ≤ i∧i < len then some (.pointer (some ⟨b,o + i.toNat * n,none⟩)) else none:=by
 simp only [ia,Option.isSome_none,Bool.false_eq_true,if_false,add_off]
theorem iaA_ptr {len n b o:Nat} {k:IntKind} {i:Int}:iaA len n (.pointer (some ⟨b,o,none⟩)) (.int k i)=if 0 ≤ i∧i < len then some (.pointer (some ⟨b,o + i.toNat * n,none⟩)) else none:=by
 simp only [iaA,Option.isSome_none,Bool.false_eq_true,if_false,add_off]
theorem iaA_fp {len n:Nat} {c:Array Value} {k:IntKind} {i:Int}:iaA len n (FPv c) (.int k i)=if 0 ≤ i∧i < len∧i.toNat * n + n ≤ c.size then some (FPv (c.extract (i.toNat * n) (i.toNat * n + n))) else none:=rfl
theorem lenL_vs {l:List Value}:lenL (VSl l)=some (.int .i64 l.length):=by
 show some (goInt l.toArray.size)=_
 rw [List.size_toArray];rfl
theorem lenL_sl {a:Option Addr} {n c:Nat}:lenL (.slice a n c)=some (.int .i64 n):=rfl
theorem lenS_s {s:ByteArray}:lenS (.string s)=some (.int .i64 s.size):=rfl
theorem lenM_nil {h:AH}:lenM h (.map none)=some (.int .i64 0):=rfl
def lenE:Option (Obj × Option Nat)→Option Value
 | some (.map es _,_)=>some (.int .i64 es.size)
 | _=>none
theorem lenE_map {es:Array MapEntry} {t:Nat} {s:Option Nat}:lenE (some (.map es t,s))=some (.int .i64 es.size):=rfl
theorem lenM_map {h:AH} {r:Nat}:lenM h (.map (some r))=lenE (h.get r):=by
 unfold lenM
 simp only
 generalize h.get r=g
 rcases g with _ | ⟨o,s⟩
 ·rfl
 ·cases o <;> rfl
theorem rngE_map {h:AH} {m:Nat} {es:Array MapEntry} {t:Nat} {s:Option Nat}:rngE h m (some (.map es t,s))=some (.pointer (some ⟨h.size,0,none⟩),h.push (.mapIter (some m) t #[] t) none):=rfl
theorem opExtract_tuple {c:Array Value} {i:Nat}:opExtract (.tuple c) i=c[i]?:=rfl
theorem nilV_ptr {P:Program} {a:Addr}:nilV P (.pointer (some a))=some (.pointer (some a)):=rfl
theorem nilV_iface {P:Program} {t:TypeId} {v:Value}:nilV P (.iface t v)=some (.iface t v):=rfl
theorem nilV_func {P:Program} {f:FuncId} {a b:Array Value}:nilV P (.func (.func f) a b)=some (.func (.func f) a b):=rfl
theorem nilV_fp {P:Program} {c:Array Value}:nilV P (FPv c)=some (FPv c):=rfl
theorem pickV_bool {b:Bool} {x y:Value}:pickV (.bool b) x y=some (if b then x else y):=Option.ext fun a=>Iff.intro (fun h=>h) fun h=>h
theorem cells_agg {c:Array Value}:(Value.agg c).cells=c:=rfl
theorem cells_int {k:IntKind} {n:Int}:(Value.int k n).cells = #[.int k n]:=rfl
theorem cells_bool {b:Bool}:(Value.bool b).cells = #[.bool b]:=rfl
theorem cells_string {s:ByteArray}:(Value.string s).cells = #[.string s]:=rfl
theorem cells_pointer {a:Option Addr}:(Value.pointer a).cells = #[.pointer a]:=rfl
theorem cells_slice {a:Option Addr} {n c:Nat}:(Value.slice a n c).cells = #[.slice a n c]:=rfl
theorem cells_map {r:Option Nat}:(Value.map r).cells = #[.map r]:=rfl
theorem cells_iface {t:TypeId} {v:Value}:(Value.iface t v).cells = #[.iface t v]:=rfl
theorem cells_nilIface:(Value.nilIface).cells = #[.nilIface]:=rfl
theorem cells_func {f:Fn} {a b:Array Value}:(Value.func f a b).cells = #[.func f a b]:=rfl
theorem cells_float {k:FloatKind} {b:Nat}:(Value.float k b).cells = #[.float k b]:=rfl
theorem cells_complex {k:FloatKind} {a b:Nat}:(Value.complex k a b).cells = #[.complex k a b]:=rfl
theorem cells_vs {l:List Value}:(VSl l).cells = #[VSl l]:=rfl
theorem cells_fp {c:Array Value}:(FPv c).cells = #[FPv c]:=rfl
theorem one_int {k:IntKind} {n:Int}:(Value.int k n).oneCell' = true:=rfl
theorem one_bool {b:Bool}:(Value.bool b).oneCell' = true:=rfl
theorem one_string {s:ByteArray}:(Value.string s).oneCell' = true:=rfl
theorem one_pointer {a:Option Addr}:(Value.pointer a).oneCell' = true:=rfl
theorem one_slice {a:Option Addr} {n c:Nat}:(Value.slice a n c).oneCell' = true:=rfl
theorem one_map {r:Option Nat}:(Value.map r).oneCell' = true:=rfl
theorem one_iface {t:TypeId} {v:Value}:(Value.iface t v).oneCell' = true:=rfl
theorem one_nilIface:(Value.nilIface).oneCell' = true:=rfl
theorem one_func {f:Fn} {a b:Array Value}:(Value.func f a b).oneCell' = true:=rfl
theorem one_float {k:FloatKind} {b:Nat}:(Value.float k b).oneCell' = true:=rfl
theorem one_complex {k:FloatKind} {a b:Nat}:(Value.complex k a b).oneCell' = true:=rfl
theorem one_vs {l:List Value}:(VSl l).oneCell' = true:=rfl
theorem one_fp {c:Array Value}:(FPv c).oneCell' = true:=rfl
theorem setFrom_nil {c:Array Value} {k:Nat}:setFrom c k []=c:=rfl
theorem setFrom_cons {c:Array Value} {k:Nat} {v:Value} {l:List Value}:setFrom c k (v::l)=setFrom (c.setIfInBounds k v) (k + 1) l:=rfl
theorem bd_eq {z:Array Value} {l:List (Nat × Nat × Value)}:bd z l=(bdF z l).map .agg:=by unfold bd;cases bdF z l <;> rfl
theorem bdF_nil {z:Array Value}:bdF z []=some z:=rfl
theorem bdF_cons {z:Array Value} {off n:Nat} {v:Value} {l:List (Nat × Nat × Value)} (h1:v.cells.size=n) (h2:off + n ≤ z.size):bdF z ((off,n,v)::l)=bdF (setFrom z off v.cells.toList) l:=by
 show (if (v.cells.size ≠ n || off + v.cells.size > z.size)=true then none else bdF (setFrom z off v.cells.toList) l)=_
 rw [if_neg]
 intro hh
 simp only [h1,ne_eq,not_true_eq_false,decide_false,Bool.false_or,decide_eq_true_eq] at hh
 omega
theorem bs_eq {e:TypeId} {z:Array Value} {n:Nat} {h:AH} {l:List (Nat × Nat × Value)}:bs e z n h l=(bdF z l).map fun c=>(.slice (some ⟨h.size,0,none⟩) n n,h.push (.cells c e (0,0)) none):=by unfold bs;cases bdF z l <;> rfl
theorem new1 {h:AH} {e:TypeId} {c:Array Value}:(opNew h e c).1=.pointer (some ⟨h.size,0,none⟩):=rfl
theorem new2 {h:AH} {e:TypeId} {c:Array Value}:(opNew h e c).2=h.push (.cells c e (0,0)) none:=rfl
theorem mm1 {h:AH}:(opMakeMap h).1=.map (some h.size):=rfl
theorem mm2 {h:AH}:(opMakeMap h).2=h.push (.map #[] 0) none:=rfl
theorem wrap64 {x:Int} (h1:-9223372036854775808 ≤ x) (h2:x ≤ 9223372036854775807):IntKind.i64.wrap x=x:=IntWalk.i64_in x ⟨h1,h2⟩
theorem callX_func {P:Program} {f:FuncId} {a b:Array Value} {args:List Value} {h:AH} {k:Value→AH→Prop} (hb:hasBody P f=true) :
  callX P (.func (.func f) a b) args h k=exP P f (a.toList++args++b.toList).toArray h k:=by
 unfold hasBody at hb
 show enterX P f _ h k=_
 unfold enterX
 split at hb
 ·rename_i fn hf
  simp only [Bool.and_eq_true,Bool.not_eq_true'] at hb
  try rw [hf]
  simp only [hb.1,Bool.false_eq_true,if_false]
  rw [if_neg (by cases hq:fn.body with | none=>rw [hq] at hb;cases hb.2 | some _=>simp)]
 ·cases hb
theorem callP_func {P:Program} {f:FuncId} {a b:Array Value} {args:List Value} {h:AH} {k pk:Value→AH→Prop} (hb:hasBody P f=true) :
  callP P (.func (.func f) a b) args h k pk=HC P f (a.toList++args++b.toList).toArray h (resK k pk):=by
 unfold hasBody at hb
 show enterP P f _ h k pk=_
 unfold enterP
 split at hb
 ·rename_i fn hf
  simp only [Bool.and_eq_true,Bool.not_eq_true'] at hb
  try rw [hf]
  simp only [hb.1,Bool.false_eq_true,if_false]
  rw [if_neg (by cases hq:fn.body with | none=>rw [hq] at hb;cases hb.2 | some _=>simp)]
 ·cases hb
theorem exP_of {P:Program} {f:FuncId} {args:Array Value} {h h':AH} {v:Value} {k:Value→AH→Prop} (a:Ex P f args h v h') (hk:k v h'):exP P f args h k:=⟨v,h',a,hk⟩
inductive Hld (e z:Nat) (h:AH) (lo:Nat):Value→List Value→Prop
 | nil:Hld e z h lo (.slice none 0 0) []
 | row {k:Nat} {c:Array Value} {l:List Value} (hk:lo ≤ k) (hg:h.get k=some (.cells c e (0,0),some z)) (hc:c=(flatC l).toArray) (hp:0 < l.length):Hld e z h lo (.slice (some ⟨k,0,none⟩) l.length l.length) l
def blkOf:Value→Option Nat
 | .slice (some a) _ _=>some a.block
 | .pointer (some a)=>some a.block
 | .map (some r)=>some r
 | _=>none
structure Kp (lo:Nat) (h h':AH):Prop where
 size:h.size ≤ h'.size
 get:∀ k,k < lo→h'.get k=h.get k
theorem Kp.refl (lo:Nat) (h:AH):Kp lo h h:=⟨Nat.le_refl _,fun _ _=>rfl⟩
theorem Kp.trans {lo:Nat} {a b c:AH} (x:Kp lo a b) (y:Kp lo b c):Kp lo a c:=⟨Nat.le_trans x.size y.size,fun k hk=>(y.get k hk).trans (x.get k hk)⟩
theorem Kp.push {lo:Nat} {h h':AH} (x:Kp lo h h') (o:Obj) (s:Option Nat) (hl:lo ≤ h'.size):Kp lo h (h'.push o s) :=
 ⟨Nat.le_trans x.size (by simp),fun k hk=>by rw [get_push_ne (by omega)];exact x.get k hk⟩
theorem Kp.put {lo:Nat} {h h':AH} (x:Kp lo h h') (j:Nat) (v:Option (Obj × Option Nat)) (hl:lo ≤ j):Kp lo h (h'.put j v) :=
 ⟨x.size,fun k hk=>by rw [get_put_ne (by omega)];exact x.get k hk⟩
theorem Kp.less {lo lo':Nat} {h h':AH} (x:Kp lo h h') (hl:lo' ≤ lo):Kp lo' h h':=⟨x.size,fun k hk=>x.get k (by omega)⟩
theorem Hld.mono {e z:Nat} {h h':AH} {lo:Nat} {s:Value} {l:List Value} (o:Hld e z h lo s l) (hg:∀ k,blkOf s=some k→h'.get k=h.get k):Hld e z h' lo s l:=by
 cases o with
 | nil=>exact .nil
 | row hk h1 hc hp=>exact .row hk ((hg _ rfl).trans h1) hc hp
theorem Hld.lo {e z:Nat} {h:AH} {lo lo':Nat} {s:Value} {l:List Value} (o:Hld e z h lo s l) (hl:lo' ≤ lo):Hld e z h lo' s l:=by
 cases o with
 | nil=>exact .nil
 | row hk h1 hc hp=>exact .row (Nat.le_trans hl hk) h1 hc hp
theorem Hld.len {e z:Nat} {h:AH} {lo:Nat} {s:Value} {l:List Value} (o:Hld e z h lo s l):lenL s=some (.int .i64 l.length):=by
 cases o <;> rfl
def Src (h:AH) (z:Nat) (x:Value) (m:List Value):Prop:=lenOf? x=some m.length∧opFirst h z m.length x=some (flatC m).toArray
theorem Src.vs {h:AH} {z:Nat} {m:List Value} (hz:∀ v ∈ m,v.cells.size=z) (hp:0 < z):Src h z (VSl m) m:=by
 refine ⟨by show some m.toArray.size=_;simp,?_⟩
 show (if m.length * z=0 then some #[] else if (m.toArray[0]?).all (·.cells.size=z)∧m.length ≤ m.toArray.size then some (flatC (m.toArray.toList.take m.length)).toArray else none)=_
 cases m with
 | nil=>simp [flatC]
 | cons a m =>
  rw [if_neg (Nat.mul_ne_zero (by simp) (by omega)),if_pos]
  ·simp
  ·simp [hz a (by simp)]
theorem Src.nil {h:AH} {z n c:Nat}:Src h z (.slice none 0 c) []:=⟨rfl,by simp [opFirst,flatC]⟩
theorem Src.row {h:AH} {z k off cap:Nat} {c:Array Value} {e:TypeId} {fz:Nat × Nat} {s:Option Nat} {m:List Value} (hg:h.get k=some (.cells c e fz,s)) (hz:∀ v ∈ m,v.cells.size=z) (hc:off + m.length * z ≤ c.size) (hm:c.extract off (off + m.length * z)=(flatC m).toArray) :
  Src h z (.slice (some ⟨k,off,none⟩) m.length cap) m:=by
 refine ⟨rfl,?_⟩
 show (if m.length * z=0 then some #[] else opCells h ⟨k,off,none⟩ (m.length * z))=_
 split
 ·rename_i h0
  have:(flatC m).length=0:=by rw [flatC_length hz];exact h0
  rw [List.eq_nil_of_length_eq_zero this]
 ·unfold opCells
  simp only [Option.isSome_none,Bool.false_eq_true,if_false,hg]
  rw [if_pos hc,hm]
theorem Hld.src {e z:Nat} {h:AH} {lo:Nat} {s:Value} {l:List Value} (o:Hld e z h lo s l) (hz:∀ v ∈ l,v.cells.size=z):Src h z s l:=by
 cases o with
 | nil=>exact Src.nil (n:=0)
 | row hk h1 hc hp =>
  have hl:=flatC_length hz
  refine Src.row h1 hz ?_ ?_
  ·rw [hc];simp [hl]
  ·rw [hc,Nat.zero_add,← hl];simp
theorem Hld.append {e z bytes lo:Nat} {zero:Value} {h:AH} {s x:Value} {l m:List Value} (o:Hld e z h lo s l) (hx:Src h z x m) (hlo:lo ≤ h.size) (hl:∀ v ∈ l,v.cells.size=z) (hm:∀ v ∈ m,v.cells.size=z) (hone:∀ v ∈ flatC m,v.oneCell' = true)
  (hz:0 < z) (hb:0 < bytes) (hb':bytes < 1073741824) (hzero:zero.cells.size=z) (hs:(l.length + m.length) * bytes < 1099511627776) :
  ∃ s' h',apT e z bytes (some zero) h s x=some (s',h')∧Hld e z h' lo s' (l++m)∧h.size ≤ h'.size∧(∀ k,k < h.size→blkOf s ≠ some k→h'.get k=h.get k)∧(blkOf s' = blkOf s ∨ ∃ k,blkOf s' = some k∧h.size ≤ k∧k < h'.size):=by
 have hlm:=flatC_length hm
 have hll:=flatC_length hl
 obtain ⟨h1,h2⟩:=hx
 have hfm:(flatC m).toArray.size=m.length * z:=by simp [hlm]
 have hcat:flatC (l++m)=flatC l++flatC m:=by simp [flatC]
 cases o with
 | nil =>
  unfold apT
  simp only [h1,h2,hfm,if_true,Nat.zero_add]
  by_cases h0:m=[]
  ·subst h0
   refine ⟨.slice none 0 0,h,by simp,.nil,Nat.le_refl _,fun _ _ _=>rfl,.inl rfl⟩
  ·have hp:0 < m.length:=List.length_pos_iff.2 h0
   rw [if_neg (by omega),if_pos ⟨hz,hb,by simpa using hb',by simpa using hs,by simpa using hzero⟩]
   refine ⟨_,_,?_,Hld.row (k:=h.size) (l:=m) hlo (get_push_eq rfl) rfl hp,by simp,fun k hk _=>get_push_ne (by omega),.inr ⟨h.size,rfl,Nat.le_refl _,by simp⟩⟩
   simp [opFirst]
 | row hk hg hc hp =>
  rename_i k c
  unfold apT
  simp only [h1,h2,hfm,if_true]
  by_cases h0:m=[]
  ·subst h0
   refine ⟨.slice (some ⟨k,0,none⟩) l.length l.length,h,by simp,by simpa using Hld.row hk hg hc hp,Nat.le_refl _,fun _ _ _=>rfl,.inl rfl⟩
  ·have hpm:0 < m.length:=List.length_pos_iff.2 h0
   have hsrc:=(Hld.src (Hld.row (lo:=lo) hk hg hc hp) hl).2
   rw [if_neg (by omega),if_pos ⟨hz,hb,by simpa using hb',by simpa using hs,by simpa using hzero⟩,hsrc]
   have hfl:(flatC l).toArray.size=l.length * z:=by simp [hll]
   simp only [hfl,if_true,hg]
   rw [if_pos ⟨trivial,trivial,trivial,trivial,trivial,hp,by simpa using hone⟩]
   refine ⟨_,_,rfl,?_,by simp,fun j hj hne=>?_,.inr ⟨h.size,rfl,Nat.le_refl _,by simp⟩⟩
   ·have:=Hld.row (e:=e) (z:=z) (h:=(h.put k none).push (.cells ((flatC l).toArray++(flatC m).toArray) e (0,0)) (some z)) (lo:=lo) (k:=h.size) (l:=l++m) hlo (get_push_eq rfl) (by rw [hcat];simp) (by simp;omega)
    simpa using this
   ·rw [get_push_ne (by simp;omega),get_put_ne (fun e=>hne (by rw [e];rfl))]
theorem Hld.key {e z:Nat} {h:AH} {lo:Nat} {s:Value} {l:List Value} (o:Hld e z h lo s l):∀ k,blkOf s=some k→lo ≤ k:=by
 intro k hk
 cases o with
 | nil=>cases hk
 | row h1 _ _ _=>injection hk with hk;subst hk;exact h1
theorem Hld.append1 {e z bytes lo:Nat} {zero v:Value} {h:AH} {s:Value} {l:List Value} {c:Array Value} (o:Hld e z h lo s l) (hc:v.cells=c) (hs2:∀ k,blkOf s=some k→k < h.size) (hlo:lo ≤ h.size) (hl:∀ v ∈ l,v.cells.size=z)
  (hv:c.size=z) (hone:∀ x ∈ c.toList,x.oneCell' = true) (hz:0 < z) (hb:0 < bytes) (hb':bytes < 1073741824) (hzero:zero.cells.size=z) (hs:(l.length + 1) * bytes < 1099511627776) :
  ∃ s' h',apT e z bytes (some zero) (h.push (.cells c e (0,0)) none) s (.slice (some ⟨h.size,0,none⟩) 1 1)=some (s',h')∧Hld e z h' lo s' (l++[v])∧h.size ≤ h'.size∧(∀ k,k < h.size→blkOf s ≠ some k→h'.get k=h.get k) ∧
   (blkOf s' = blkOf s ∨ ∃ k,blkOf s' = some k∧h.size ≤ k∧k < h'.size):=by
 subst hc
 have hfl:flatC [v]=v.cells.toList:=by simp [flatC]
 have hx:Src (h.push (.cells v.cells e (0,0)) none) z (.slice (some ⟨h.size,0,none⟩) 1 1) [v]:=by
  refine Src.row (m:=[v]) (get_push_eq rfl) (fun x hx=>by rw [List.mem_singleton.1 hx];exact hv) (by simp [hv]) ?_
  rw [hfl];simp [hv]
 have o':Hld e z (h.push (.cells v.cells e (0,0)) none) lo s l:=o.mono fun k hk=>get_push_ne (by have:=hs2 k hk;omega)
 obtain ⟨s',h',a1,a2,a3,a4,a5⟩:=o'.append hx (by simp;omega) hl (fun x hx=>by rw [List.mem_singleton.1 hx];exact hv) (fun x hx=>hone x (by rw [hfl] at hx;exact hx)) hz hb hb' hzero hs
 simp only [AH.size_push] at a3 a4 a5
 refine ⟨s',h',a1,a2,by omega,fun k hk hne=>(a4 k (by omega) hne).trans (get_push_ne (by omega)),?_⟩
 rcases a5 with e | ⟨k,e,h1,h2⟩
 ·exact .inl e
 ·exact .inr ⟨k,e,by omega,h2⟩
theorem Hld.freeze {P:Program} {e z lo:Nat} {h:AH} {s:Value} {l:List Value} (o:Hld e z h lo s l) (hz:0 < z) (hl:∀ v ∈ l,v.cells.size=z) :
  (s=.slice none 0 0∧l=[]) ∨ ∃ h₂,Gh P h s h₂ (VSl l)∧(∀ k,k < lo→h₂.get k=h.get k)∧h₂.size=h.size:=by
 cases o with
 | nil=>exact .inl ⟨rfl,rfl⟩
 | row hk hg hc hp =>
  rename_i k c
  refine .inr ⟨_,Gh.slice (l:=l) hg hz hl rfl (Nat.le_refl _) (fun i v hv=>?_) ?_,fun j hj=>get_put_ne (by omega),rfl⟩
  ·rw [hc];simpa using hv
  ·rw [hc];simp [flatC_length hl]
theorem plain_int {n:Nat} {k:IntKind} {x:Int}:plainN (n + 1) (.int k x)=true:=rfl
theorem plain_bool {n:Nat} {b:Bool}:plainN (n + 1) (.bool b)=true:=rfl
theorem plain_string {n:Nat} {s:ByteArray}:plainN (n + 1) (.string s)=true:=rfl
theorem plain_float {n:Nat} {k:FloatKind} {b:Nat}:plainN (n + 1) (.float k b)=true:=rfl
theorem plain_complex {n:Nat} {k:FloatKind} {a b:Nat}:plainN (n + 1) (.complex k a b)=true:=rfl
theorem Below.of_plain {n:Nat}:∀ {d:Nat} {v:Value},plainN d v=true→Below n v:=by
 intro d
 induction d with
 | zero=>intro v h;cases h
 | succ d ih =>
  intro v h
  cases v with
  | bool b=>exact .bool b
  | int k n=>exact .int k n
  | float k b=>exact .float k b
  | complex k a b=>exact .complex k a b
  | string s=>exact .string s
  | pointer a=>cases a with
   | none=>exact .nilPtr
   | some a=>cases h
  | slice a l c=>cases a with
   | none=>exact .nilSlice l c
   | some a=>cases h
  | map r=>cases r with
   | none=>exact .nilMap
   | some a=>cases h
  | chan r=>cases r with
   | none=>exact .nilChan
   | some a=>cases h
  | func fn f c =>
   cases fn with
   | func fn =>
    simp only [plainN,Bool.and_eq_true,List.all_eq_true] at h
    exact .func fn (fun v hv=>ih (h.1 v hv)) (fun v hv=>ih (h.2 v hv))
   | _=>cases h
  | nilFunc=>exact .nilFunc
  | iface t v=>exact .iface t (ih h)
  | nilIface=>exact .nilIface
  | agg c=>simp only [plainN,List.all_eq_true] at h;exact .agg fun v hv=>ih (h v hv)
  | tuple c=>simp only [plainN,List.all_eq_true] at h;exact .tuple fun v hv=>ih (h v hv)
theorem HC.pureF {P:Program} {f:FuncId} {args:Array Value} {h:AH} {Q:Res→AH→Prop}
  (hh:HC P f args h fun r h₁=>Kp h.size h h₁∧r.Below h.size∧Q r h):HC P f args h Q :=
 fun E w args' r ra=>(hh E w args' r ra).mono fun e w' ⟨E',res,h₁,q1,q2,q3,e2,e4,hq⟩=>by
  obtain ⟨p1,p2⟩:=r.cut q2 q3 (h₂:=h) rfl fun k y hk=>by
   obtain ⟨n,o',g1,_⟩:=r.live k y.1 y.2 hk
   have hlt:=(r.dom k n g1).1
   exact ⟨hlt,by rw [e2.get k hlt];exact hk,.inr hk⟩
  refine ⟨_,res,h,?_,p1,p2,hq⟩
  cases res with
  | ret v =>
   cases e with
   | returned u=>exact RV.cut q1 e4
   | _=>cases q1
  | pan v =>
   cases e with
   | panicked chain =>
    obtain ⟨u,hu,hv⟩:=q1
    exact ⟨u,hu,hv.cut e4⟩
   | _=>cases q1
theorem Ex.pureF {P:Program} {f:FuncId} {args:Array Value} {h:AH} {v:Value} (hb:Below h.size v) (hh:HC P f args h fun r h₁=>r=.ret v∧Kp h.size h h₁):Ex P f args h v h :=
 HC.pureF (hh.mono fun r h₁ ⟨a,b⟩=>⟨b,by rw [a];exact hb,a,rfl⟩)
def slV:List Value→Value
 | []=>.slice none 0 0
 | l=>VSl l
theorem lenL_slV {l:List Value}:lenL (slV l)=some (.int .i64 l.length):=by
 cases l with
 | nil=>rfl
 | cons a l=>exact lenL_vs
theorem slV_of {l:List Value} (h:l ≠ []):slV l=VSl l:=by
 cases l with
 | nil=>exact absurd rfl h
 | cons a l=>rfl
theorem Src.slV {h:AH} {z:Nat} {m:List Value} (hz:∀ v ∈ m,v.cells.size=z) (hp:0 < z):Src h z (slV m) m:=by
 cases m with
 | nil=>exact Src.nil (n:=0)
 | cons a m=>exact Src.vs hz hp
inductive Sl:Value→List Value→Prop
 | nil:Sl (.slice none 0 0) []
 | vs (l:List Value):Sl (VSl l) l
theorem Sl.of (l:List Value):Sl (slV l) l:=by
 cases l with
 | nil=>exact .nil
 | cons a l=>exact .vs _
theorem Sl.len {v:Value} {l:List Value} (h:Sl v l):lenL v=some (.int .i64 l.length):=by
 cases h with
 | nil=>rfl
 | vs=>exact lenL_vs
theorem Sl.ia {v:Value} {l:List Value} (h:Sl v l) (n:Nat) (k:IntKind) (i:Int):Ab.ia n v (.int k i)=if 0 ≤ i then (l[i.toNat]?).bind (fun v=>if v.cells.size=n then some (FPv v.cells) else none) else none:=by
 cases h with
 | nil=>simp [Ab.ia]
 | vs=>exact ia_vs
theorem Sl.src {v:Value} {l:List Value} (s:Sl v l) (h:AH) {z:Nat} (hz:∀ v ∈ l,v.cells.size=z) (hp:0 < z):Src h z v l:=by
 cases s with
 | nil=>exact Src.nil (n:=0)
 | vs=>exact Src.vs hz hp
theorem drop_nil {α:Type} {l:List α} {i:Nat} (h:l.drop i=[]):l.length ≤ i:=by simpa using h
theorem Ex.own {P:Program} {f:FuncId} {args:Array Value} {h:AH} {e z:Nat} {l:List Value} (hz:0 < z) (hl:∀ v ∈ l,v.cells.size=z) (hb:∀ v ∈ flatC l,Below h.size v)
  (hh:HC P f args h fun r h₁=>∃ s,r=.ret s∧Hld e z h₁ h.size s l∧Kp h.size h h₁):Ex P f args h (slV l) h:=by
 refine HC.pureF (HC.ghRes (hh.mono fun r h₁ ⟨s,e1,o,fr⟩=>?_))
 rcases o.freeze (P:=P) hz hl with ⟨rfl,rfl⟩ | ⟨h₂,g,q1,q2⟩
 ·exact ⟨_,_,h₁,e1,.refl P h₁ _,fr,.nilSlice 0 0,rfl,rfl⟩
 ·cases l with
  | nil=>cases o with
   | nil=>exact ⟨_,_,h₁,e1,.refl P h₁ _,fr,.nilSlice 0 0,rfl,rfl⟩
   | row _ _ _ hp=>exact absurd hp (by simp)
  | cons a l=>exact ⟨_,_,h₂,e1,g,⟨by rw [q2];exact fr.size,fun k hk=>by rw [q1 k hk];exact fr.get k hk⟩,.vs fun v hv=>hb v (by simpa using hv),rfl,rfl⟩
def Ren.base (P:Program) (E:Ren):Ren:=⟨fun k=>if k < P.globals.size then some k else none,fun _=>none,E.fro⟩
theorem Ren.base_at {P:Program} {E:Ren} {k n:Nat} (hk:(E.base P).at_ k=some n):k < P.globals.size∧n=k:=by
 simp only [Ren.base] at hk
 split at hk
 ·cases hk;exact ⟨by assumption,rfl⟩
 ·cases hk
theorem RW.base {P:Program} {E:Ren} {h:AH} {w:World} (r:RW P E h w):RW P (E.base P) (AH.bare P) w where
 glob g hg:=by simp only [Ren.base];rw [if_pos hg]
 dom k n hk:=by obtain ⟨h1,rfl⟩:=Ren.base_at hk;exact ⟨h1,(r.dom _ _ (r.glob _ h1)).2⟩
 sdom k x hk:=by cases hk
 live k o s hk:=by simp [AH.bare,AH.get,T.get] at hk
 inj j k n _ _ gj _:=by simp [AH.bare,AH.get,T.get] at gj
 frz:=r.frz
 icy k o s n hk:=by simp [AH.bare,AH.get,T.get] at hk
 sep:=⟨fun _ _=>rfl,fun k n hk _=>(Ren.base_at hk).2.symm⟩
end Go.Ab
end
section
namespace Go.Ab
theorem flat_bind {P:Program} {α β:Type} {k:α→Sem β}:∀ {m:Sem α},flat P (m >>= k)=(flat P m).bind fun x=>flat P (k x):=by
 intro m
 show flat P (Sem.bind m k)=_
 induction m with
 | pure x=>rfl
 | program f ih=>simp only [Sem.bind,flat];exact ih P
 | mark m f ih=>simp only [Sem.bind,flat];exact ih
 | _=>rfl
theorem flat_pure {P:Program} {α:Type} {x:α}:flat P (pure x:Sem α)=some x:=rfl
theorem flat_und {P:Program} {t:TypeId} {d:TypeDesc} (h:P.underlying t=some d):flat P (underlying t)=some d:=by
 have:flat P (underlying t)=flat P (match P.underlying t with | some d=>pure d | none=>stuck "no such type":Sem TypeDesc):=rfl
 rw [this,h];rfl
def findW {α:Type} (p:α→Bool):List α→Nat→Option (Nat × α)
 | [],_=>none
 | x::l,i=>if p x then some (i,x) else findW p l (i + 1)
theorem findNow_map {α:Type} {d:TypeDesc} {k:Value} {f:α→MapEntry} {p:α→Bool}:∀ {l:List α} {i:Nat},(∀ x ∈ l,Instr.sameNow d k (f x).key=some (p x))→Instr.findNow d k (l.map f) i=some ((findW p l i).map fun r=>(r.1,(f r.2).val)):=by
 intro l
 induction l with
 | nil=>intro i _;rfl
 | cons x l ih =>
  intro i h
  simp only [List.map_cons,Instr.findNow,findW,h x (by simp)]
  cases p x
  ·simpa using ih fun y hy=>h y (List.mem_cons_of_mem _ hy)
  ·rfl
theorem findW_none {α:Type} {p:α→Bool}:∀ {l:List α} {i:Nat},findW p l i=none ↔ ∀ x ∈ l,p x=false:=by
 intro l
 induction l with
 | nil=>intro i;simp [findW]
 | cons x l ih =>
  intro i
  simp only [findW,List.mem_cons,forall_eq_or_imp]
  cases h:p x
  ·simpa using ih
  ·simp
theorem findW_some {α:Type} {p:α→Bool}:∀ {l:List α} {i:Nat} {r:Nat × α},findW p l i=some r→∃ a b,l=a++r.2::b∧r.1=i + a.length∧p r.2=true∧∀ x ∈ a,p x=false:=by
 intro l
 induction l with
 | nil=>intro i r h;cases h
 | cons x l ih =>
  intro i r h
  simp only [findW] at h
  cases hp:p x with
  | true=>rw [hp] at h;cases h;exact ⟨[],l,rfl,rfl,hp,fun y hy=>by cases hy⟩
  | false =>
   rw [hp] at h
   obtain ⟨a,b,h1,h2,h3,h4⟩:=ih h
   exact ⟨x::a,b,by rw [h1];rfl,by rw [h2];simp;omega,h3,fun y hy=>by
    rcases List.mem_cons.1 hy with rfl | hy
    ·exact hp
    ·exact h4 y hy⟩
end Go.Ab
end
section
namespace Go.Ab
structure Walk (h:AH) (r m:Nat) (es:Array MapEntry) (vs:List MapEntry):Prop where
 at_:∃ so since sm clock,h.get r=some (.mapIter (some m) since (vs.map (·.born)).toArray clock,so)∧h.get m=some (.map es clock,sm)∧(∀ e ∈ es.toList,e.born < since)∧(∀ e ∈ es.toList,e.born < clock)
 nodup:(es.toList.map (·.born)).Nodup
 sub:∀ e ∈ vs,e ∈ es.toList
 vnodup:(vs.map (·.born)).Nodup
theorem Walk.start {h:AH} {m:Nat} {es:Array MapEntry} {clock:Nat} {sm:Option Nat} (hm:h.get m=some (.map es clock,sm)) (hlt:m < h.size) (hc:∀ e ∈ es.toList,e.born < clock) (hn:(es.toList.map (·.born)).Nodup) :
  Walk (h.push (.mapIter (some m) clock #[] clock) none) h.size m es [] :=
 ⟨⟨none,clock,sm,clock,get_push_eq rfl,by rw [get_push_ne (by omega)];exact hm,hc,hc⟩,hn,fun e he=>by (cases he),List.nodup_nil⟩
theorem Walk.mono {h h':AH} {r m:Nat} {es:Array MapEntry} {vs:List MapEntry} (w:Walk h r m es vs) (h1:h'.get r=h.get r) (h2:h'.get m=h.get m):Walk h' r m es vs:=by
 obtain ⟨⟨so,since,sm,clock,g1,g2,g3,g4⟩,a,b,c⟩:=w
 exact ⟨⟨so,since,sm,clock,h1.trans g1,h2.trans g2,g3,g4⟩,a,b,c⟩
theorem nodup_of_map {α β:Type} {f:α→β} {l:List α} (hn:(l.map f).Nodup):l.Nodup:=by
 induction l with
 | nil=>exact List.nodup_nil
 | cons x l ih =>
  simp only [List.map_cons,List.nodup_cons] at hn
  exact List.nodup_cons.2 ⟨fun hx=>hn.1 (List.mem_map_of_mem hx),ih hn.2⟩
theorem born_inj {l:List MapEntry} (hn:(l.map (·.born)).Nodup) {a b:MapEntry} (ha:a ∈ l) (hb:b ∈ l) (he:a.born=b.born):a=b:=by
 induction l with
 | nil=>cases ha
 | cons x l ih =>
  simp only [List.map_cons,List.nodup_cons] at hn
  rcases List.mem_cons.1 ha with rfl | ha'
  ·rcases List.mem_cons.1 hb with rfl | hb'
   ·rfl
   ·exact absurd (he ▸ List.mem_map_of_mem hb') hn.1
  ·rcases List.mem_cons.1 hb with rfl | hb'
   ·exact absurd (he.symm ▸ List.mem_map_of_mem ha') hn.1
   ·exact ih hn.2 ha' hb'
theorem nodup_of_born {l:List MapEntry} (hn:(l.map (·.born)).Nodup):l.Nodup:=by
 induction l with
 | nil=>exact List.nodup_nil
 | cons x l ih =>
  simp only [List.map_cons,List.nodup_cons] at hn
  exact List.nodup_cons.2 ⟨fun hx=>hn.1 (List.mem_map_of_mem hx),ih hn.2⟩
theorem perm_of_nodup {α:Type}:∀ {l m:List α},l.Nodup→m.Nodup→(∀ a,a ∈ l ↔ a ∈ m)→l.Perm m:=by
 intro l
 induction l with
 | nil =>
  intro m _ _ h
  cases m with
  | nil=>exact .nil
  | cons x m=>exact absurd ((h x).2 (by simp)) (by simp)
 | cons x l ih =>
  intro m hl hm h
  have hx:x ∈ m:=(h x).1 (by simp)
  obtain ⟨a,b,rfl⟩:=List.append_of_mem hx
  have hl':=List.nodup_cons.1 hl
  have hm':x ∉ a++b∧(a++b).Nodup:=by
   have:=(List.perm_middle (a:=x) (l₁:=a) (l₂:=b)).nodup_iff.1 hm
   exact List.nodup_cons.1 this
  refine .trans (.cons x (ih hl'.2 hm'.2 fun y=>?_)) List.perm_middle.symm
  constructor
  ·intro hy
   have:y ∈ a++x::b:=(h y).1 (List.mem_cons_of_mem _ hy)
   simp only [List.mem_append,List.mem_cons] at this ⊢
   rcases this with h1 | rfl | h1
   ·exact .inl h1
   ·exact absurd hy hl'.1
   ·exact .inr h1
  ·intro hy
   have:y ∈ x::l:=(h y).2 (by
    simp only [List.mem_append,List.mem_cons] at hy ⊢
    rcases hy with h1 | h1
    ·exact .inl h1
    ·exact .inr (.inr h1))
   rcases List.mem_cons.1 this with rfl | h1
   ·exact absurd hy hm'.1
   ·exact h1
theorem Walk.over {h:AH} {r m:Nat} {es:Array MapEntry} {vs:List MapEntry} (w:Walk h r m es vs) (ha:∀ e ∈ es.toList,e.born ∈ vs.map (·.born)):vs.Perm es.toList:=by
 refine perm_of_nodup (nodup_of_born w.vnodup) (nodup_of_born w.nodup) fun e=>⟨w.sub e,fun he=>?_⟩
 obtain ⟨v,hv,e1⟩:=List.mem_map.1 (ha e he)
 rw [← born_inj w.nodup (w.sub v hv) he e1]
 exact hv
theorem Walk.length {h:AH} {r m:Nat} {es:Array MapEntry} {vs:List MapEntry} (w:Walk h r m es vs):vs.length ≤ es.size:=by
 have:∀ (l m:List MapEntry),l.Nodup→(∀ a ∈ l,a ∈ m)→l.length ≤ m.length:=by
  intro l
  induction l with
  | nil=>intro m _ _;simp
  | cons x l ih =>
   intro m hl h
   obtain ⟨a,b,rfl⟩:=List.append_of_mem (h x (by simp))
   have hl':=List.nodup_cons.1 hl
   have:=ih (a++b) hl'.2 fun y hy=>by
    have h1:=h y (List.mem_cons_of_mem _ hy)
    simp only [List.mem_append,List.mem_cons] at h1 ⊢
    rcases h1 with h1 | rfl | h1
    ·exact .inl h1
    ·exact absurd hy hl'.1
    ·exact .inr h1
   simp only [List.length_append,List.length_cons] at this ⊢
   omega
 simpa using this vs es.toList (nodup_of_born w.vnodup) w.sub
theorem Walk.next {P:Program} {h:AH} {r m:Nat} {es:Array MapEntry} {vs:List MapEntry} {k:Value→AH→Prop} (w:Walk h r m es vs) (hne:r ≠ m)
  (hover:vs.Perm es.toList→k overV h)
  (hstep:∀ e h',e ∈ es.toList→(∀ x ∈ vs,x.born ≠ e.born)→h'.size=h.size→(∀ j,j ≠ r→h'.get j=h.get j)→Walk h' r m es (vs++[e])→k (.tuple #[.bool true,e.key,e.val]) h') :
  nextP P h (.pointer (some ⟨r,0,none⟩)) false k:=by
 obtain ⟨⟨so,since,sm,clock,g1,g2,g3,g4⟩,a,b,c⟩:=w
 unfold nextP
 simp only [g1,g2,true_and]
 refine ⟨?_,fun ho=>hover (Walk.over ⟨⟨so,since,sm,clock,g1,g2,g3,g4⟩,a,b,c⟩ fun e he=>?_),fun e he hs=>?_⟩
 ·rw [Bool.and_eq_false_iff]
  by_cases hz:es.isEmpty=true
  ·left;simp [hz]
  ·right
   rw [Bool.eq_false_iff]
   intro hall
   rw [Array.all_eq_true] at hall
   have hpos:0 < es.size:=by
    cases hs:es.size with
    | zero=>exact absurd (by simp [Array.isEmpty,hs]) hz
    | succ n=>omega
   have h1:=hall 0 hpos
   have h2:=g4 es[0] (by simp)
   simp only [ge_iff_le,decide_eq_true_eq] at h1
   omega
 ·apply Classical.byContradiction
  intro hn
  have:=ho e he (by
   rw [Bool.eq_false_iff]
   intro hc
   exact hn (by simpa using hc))
  have:=g3 e he
  omega
 ·have hv:∀ x ∈ vs,x.born ≠ e.born:=by
   intro x hx heq
   rw [Bool.eq_false_iff] at hs
   exact hs (by simpa using ⟨x,hx,heq⟩)
  refine hstep e _ he hv rfl (fun j hj=>get_put_ne hj) ⟨⟨so,since,sm,clock,?_,?_,g3,g4⟩,a,?_,?_⟩
  ·rw [get_put_eq rfl];simp
  ·rw [get_put_ne (fun e=>hne e.symm)];exact g2
  ·intro x hx
   rcases List.mem_append.1 hx with h1 | h1
   ·exact b x h1
   ·rw [List.mem_singleton.1 h1];exact he
  ·rw [List.map_append,List.nodup_append]
   refine ⟨c,by simp,fun x hx y hy=>?_⟩
   obtain ⟨z,hz,rfl⟩:=List.mem_map.1 hx
   simp only [List.map_cons,List.map_nil,List.mem_singleton] at hy
   rw [hy];exact hv z hz
theorem Walk.entry {h:AH} {r m:Nat} {es:Array MapEntry} {vs:List MapEntry} {e:MapEntry} (w:Walk h r m es (vs++[e])):opEntry h (.pointer (some ⟨r,0,none⟩))=some (.tuple #[e.key,e.val]):=by
 obtain ⟨⟨so,since,sm,clock,g1,g2,g3,g4⟩,a,b,c⟩:=w
 unfold opEntry
 have hb:((List.map (fun x=>x.born) (vs++[e])).toArray).back?=some e.born:=by simp
 simp only [g1,g2,hb,bne_self_eq_false,Bool.false_eq_true,if_false]
 have he:e ∈ es.toList:=b e (by simp)
 have:es.find? (fun x=>x.born == e.born)=some e:=by
  rw [← Array.find?_toList]
  cases hf:es.toList.find? (fun x=>x.born == e.born) with
  | none=>exact absurd (List.find?_eq_none.1 hf e he) (by simp)
  | some y =>
   have h1:=List.mem_of_find?_eq_some hf
   have h2:=List.find?_some hf
   rw [born_inj a h1 he (by simpa using h2)]
 rw [this]
end Go.Ab
end
section
namespace Go.Ab
def lkR (ok:Bool) (z:Value):Option (Nat × Value)→Value
 | some (_,v)=>if ok then .tuple #[v,.bool true] else v
 | none=>if ok then .tuple #[z,.bool false] else z
theorem opLookup_eq {P:Program} {h:AH} {t kt el:TypeId} {r clk:Nat} {es:Array MapEntry} {s:Option Nat} {k z:Value} {ok:Bool} {res:Option (Nat × Value)} (hu:P.underlying t=some (.map kt el)) (hz:((P.info? el).bind (·.zero))=some z) (hp:plain z=true)
  (hg:h.get r=some (.map es clk,s)) (hf:opFind P kt k es es.isEmpty=some res):opLookup P h t (.map (some r)) k ok=some (lkR ok z res):=by
 obtain ⟨i,hi,hz⟩:∃ i,P.info? el=some i∧i.zero=some z:=by
  cases hi:P.info? el with
  | none=>rw [hi] at hz;cases hz
  | some i=>rw [hi] at hz;exact ⟨i,rfl,hz⟩
 unfold opLookup
 simp only [hu,entriesOf,hg,hf]
 cases res with
 | none=>simp only [hi,hz,hp,if_true,lkR]
 | some r=>obtain ⟨j,v⟩:=r;simp only [lkR]
theorem opFind_now {P:Program} {kt:TypeId} {d:TypeDesc} {k:Value} {α:Type} {f:α→MapEntry} {p:α→Bool} {l:List α} {e:Bool} (hd:P.underlying kt=some d) (hp:plain k=true) (hc:flat P (Instr.checkKey e 10000 kt k)=some ())
  (h:∀ x ∈ l,Instr.sameNow d k (f x).key=some (p x)):opFind P kt k (l.map f).toArray e=some ((findW p l 0).map fun r=>(r.1,(f r.2).val)):=by
 unfold opFind
 simp only [hd,hp,if_true,hc,findNow_map h]
theorem mapUpdate_new {P:Program} {h:AH} {t kt el:TypeId} {b clk:Nat} {es:Array MapEntry} {s:Option Nat} {k v:Value} (hu:P.underlying t=some (.map kt el)) (hg:h.get b=some (.map es clk,s)) (hf:opFind P kt k es false=some none) :
  opMapUpdate P h t (.map (some b)) k v=some (h.put b (some (.map (es.push { key:=k,val:=v,born:=clk }) (clk + 1),s))):=by
 unfold opMapUpdate
 simp only [hu,hg,hf]
theorem findW_at {α:Type} {p:α→Bool} {l:List α} {r:Nat × α} (h:findW p l 0=some r):l[r.1]?=some r.2∧p r.2=true:=by
 obtain ⟨a,b,h1,h2,h3,_⟩:=findW_some h
 refine ⟨?_,h3⟩
 rw [h1,h2]
 simp
end Go.Ab
end
section
namespace Go.Ab
structure Gr (e z:Nat) (h0 h:AH) (s:Value) (l:List Value):Prop where
 kp:Kp h0.size h0 h
 hld:Hld e z h h0.size s l
 lt:∀ k,blkOf s=some k→k < h.size
theorem Gr.nil {e z:Nat} {h:AH}:Gr e z h h (.slice none 0 0) []:=⟨Kp.refl _ _,.nil,fun k hk=>by cases hk⟩
theorem Gr.append1 {e z bytes:Nat} {zero v:Value} {h0 h:AH} {s:Value} {l:List Value} {c:Array Value} (g:Gr e z h0 h s l) (hc:v.cells=c) (hl:∀ v ∈ l,v.cells.size=z)
  (hv:c.size=z) (hone:∀ x ∈ c.toList,x.oneCell' = true) (hz:0 < z) (hb:0 < bytes) (hb':bytes < 1073741824) (hzero:zero.cells.size=z) (hs:(l.length + 1) * bytes < 1099511627776) :
  ∃ s' h',apT e z bytes (some zero) (h.push (.cells c e (0,0)) none) s (.slice (some ⟨h.size,0,none⟩) 1 1)=some (s',h')∧Gr e z h0 h' s' (l++[v]):=by
 obtain ⟨s',h',a1,a2,a3,a4,a5⟩:=g.hld.append1 hc g.lt g.kp.size hl hv hone hz hb hb' hzero hs
 have hk:=g.hld.key
 have hsz:=g.kp.size
 refine ⟨s',h',a1,⟨g.kp.trans ⟨a3,fun k hk2=>a4 k (by omega) fun e=>?_⟩,a2,fun k hk2=>?_⟩⟩
 ·have:=hk k e
  omega
 ·rcases a5 with e | ⟨j,e,e1,e2⟩
  ·rw [e] at hk2
   have:=g.lt k hk2
   omega
  ·rw [e] at hk2
   injection hk2 with hk2
   omega
theorem Ex.gr {P:Program} {f:FuncId} {args:Array Value} {h:AH} {e z:Nat} {l:List Value} (hz:0 < z) (hl:∀ v ∈ l,v.cells.size=z) (hb:∀ v ∈ flatC l,Below h.size v)
  (hh:HC P f args h fun r h₁=>∃ s,r=.ret s∧Gr e z h h₁ s l):Ex P f args h (slV l) h :=
 Ex.own hz hl hb (hh.mono fun r h₁ ⟨s,e1,g⟩=>⟨s,e1,g.hld,g.kp⟩)
end Go.Ab
end
