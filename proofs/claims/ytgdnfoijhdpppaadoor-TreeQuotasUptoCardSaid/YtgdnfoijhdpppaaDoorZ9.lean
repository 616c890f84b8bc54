import Derived.Test.YtgdnfoijhdpppaaDoorZ7
import Derived.Test.YtgdnfoijhdpppaaDoorZ8
set_option linter.unusedVariables false
set_option linter.unusedSimpArgs false
section
namespace Go.Ab
section
variable {P:Program} {ρ σ:Operand→Option Value}
theorem listOf_congr:∀ {l:List Operand},(∀ x ∈ l,ρ x=σ x)→listOf ρ l=listOf σ l:=by
 intro l
 induction l with
 | nil=>intro _;rfl
 | cons x l ih=>intro h;simp only [listOf,h x (by simp),ih (fun y hy=>h y (by simp [hy]))]
theorem partsOf_congr:∀ {l:List (Nat × Operand)},(∀ x ∈ l,ρ x.2=σ x.2)→partsOf ρ l=partsOf σ l:=by
 intro l
 induction l with
 | nil=>intro _;rfl
 | cons x l ih =>
  intro h
  obtain ⟨i,x⟩:=x
  simp only [partsOf,h (i,x) (by simp),ih (fun y hy=>h y (by simp [hy]))]
theorem optOf_congr {x:Option Operand} (h:∀ y,x=some y→ρ y=σ y):optOf ρ x=optOf σ x:=by
 cases x with
 | none=>rfl
 | some y=>simp only [optOf,h y rfl]
theorem absCall_congr {c:Call} {ty:TypeId} {h:AH} (hx:∀ x ∈ c.operands.toList,ρ x=σ x):absCall P ρ c ty h=absCall P σ c ty h:=by
 have h1:listOf ρ c.args.toList=listOf σ c.args.toList:=listOf_congr fun x hm=>hx x (by simp only [Call.operands,Array.toList_append];exact List.mem_append_right _ hm)
 unfold absCall
 rw [h1]
 cases hc:c.callee with
 | builtin b=>cases b <;> rfl
 | value f=>simp only [hx f (by simp [Call.operands,hc])]
 | invoke f m=>simp only [hx f (by simp [Call.operands,hc])]
theorem absOp_congr {o:Oper} {h:AH} (hx:∀ x ∈ o.op.operands.toList,ρ x=σ x):absOp P ρ o h=absOp P σ o h:=by
 unfold absOp
 cases ho:o.op with
 | move x=>simp only [ho,Op.operands] at hx;simp only [hx x (by simp)]
 | assign x=>simp only [ho,Op.operands] at hx;simp only [hx x (by simp)]
 | pick c a b=>simp only [ho,Op.operands] at hx;simp only [hx c (by simp),hx a (by simp),hx b (by simp)]
 | box e x=>simp only [ho,Op.operands] at hx;simp only [hx x (by simp)]
 | build t l =>
  simp only [ho,Op.operands] at hx
  simp only [partsOf_congr (l:=l.toList) (fun x hm=>hx x.2 (by simpa using ⟨x.1,by simpa using hm⟩))]
 | buildSlice t n l =>
  simp only [ho,Op.operands] at hx
  simp only [partsOf_congr (l:=l.toList) (fun x hm=>hx x.2 (by simpa using ⟨x.1,by simpa using hm⟩))]
 | load t x=>simp only [ho,Op.operands] at hx;simp only [hx x (by simp)]
 | store t x y=>simp only [ho,Op.operands] at hx;simp only [hx x (by simp),hx y (by simp)]
 | nilCheck x=>simp only [ho,Op.operands] at hx;simp only [hx x (by simp)]
 | binOp op t x y yt=>simp only [ho,Op.operands] at hx;simp only [hx x (by simp),hx y (by simp)]
 | unOp op t x=>simp only [ho,Op.operands] at hx;simp only [hx x (by simp)]
 | convert s d x=>simp only [ho,Op.operands] at hx;simp only [hx x (by simp)]
 | makeInterface t x=>simp only [ho,Op.operands] at hx;simp only [hx x (by simp)]
 | makeFunc fn l m =>
  simp only [ho,Op.operands] at hx
  have h1:listOf ρ l.toList=listOf σ l.toList:=listOf_congr fun x hm=>hx x (by rw [Array.toList_append];exact List.mem_append_left _ hm)
  have h2:listOf ρ m.toList=listOf σ m.toList:=listOf_congr fun x hm=>hx x (by rw [Array.toList_append];exact List.mem_append_right _ hm)
  cases fn <;> simp only [h1,h2]
 | makeSlice t x y=>simp only [ho,Op.operands] at hx;simp only [hx x (by simp),hx y (by simp)]
 | slice t x l g m =>
  simp only [ho,Op.operands] at hx
  have h1:optOf ρ l=optOf σ l:=optOf_congr fun y e=>hx y (by simp [e])
  have h2:optOf ρ g=optOf σ g:=optOf_congr fun y e=>hx y (by simp [e])
  cases m with
  | none=>simp only [hx x (by simp),h1,h2]
  | some m=>simp only [hx x (by simp),hx m (by simp),h1,h2]
 | fieldAddr t x f=>simp only [ho,Op.operands] at hx;simp only [hx x (by simp)]
 | field t x f=>simp only [ho,Op.operands] at hx;simp only [hx x (by simp)]
 | indexAddr t x y=>simp only [ho,Op.operands] at hx;simp only [hx x (by simp),hx y (by simp)]
 | index t x y=>simp only [ho,Op.operands] at hx;simp only [hx x (by simp),hx y (by simp)]
 | typeAssert x a b c=>simp only [ho,Op.operands] at hx;simp only [hx x (by simp)]
 | extract x i=>simp only [ho,Op.operands] at hx;simp only [hx x (by simp)]
 | call c=>simp only [ho,Op.operands] at hx;exact absCall_congr hx
 | lookup t x k ok=>simp only [ho,Op.operands] at hx;simp only [hx x (by simp),hx k (by simp)]
 | mapUpdate t m k x=>simp only [ho,Op.operands] at hx;simp only [hx m (by simp),hx k (by simp),hx x (by simp)]
 | insert t m k x=>simp only [ho,Op.operands] at hx;simp only [hx m (by simp),hx k (by simp),hx x (by simp)]
 | mapEntry t m k=>simp only [ho,Op.operands] at hx;simp only [hx m (by simp),hx k (by simp)]
 | entryStore t m k x=>simp only [ho,Op.operands] at hx;simp only [hx m (by simp),hx k (by simp),hx x (by simp)]
 | range t x=>simp only [ho,Op.operands] at hx;simp only [hx x (by simp)]
 | next it s=>simp only [ho,Op.operands] at hx;simp only [hx it (by simp)]
 | entry it=>simp only [ho,Op.operands] at hx;simp only [hx it (by simp)]
 | makeMap t r=>cases r <;> rfl
 | _=>rfl
def loud (P:Program) (o:Oper):Bool :=
 match o.op with
 | .move _ | .assign _ | .pick .. | .build .. | .load .. | .nilCheck _ | .binOp .. | .unOp .. | .makeInterface .. | .makeFunc .. | .slice .. | .fieldAddr .. | .field .. | .indexAddr .. | .index ..
 | .typeAssert .. | .extract .. | .lookup .. | .entry ..=>false
 | .convert s d _=>match P.underlying d with
  | some (.slice _)=>true
  | _=>false
 | .call { callee:=.builtin .len,.. } | .call { callee:=.builtin .min,.. } | .call { callee:=.builtin .max,.. } | .call { callee:=.builtin .real,.. } | .call { callee:=.builtin .imag,.. } | .call { callee:=.builtin .complex,.. }=>false
 | _=>true
theorem valH_quiet {h:AH} {v:Option Value} {out:Out} (hh:valH h v=some out):∃ u,out=.val u h:=by
 obtain ⟨u,_,rfl⟩:=valH_eq hh
 exact ⟨u,rfl⟩
theorem absBin_quiet {op:BinOp} {t:TypeId} {x y:Operand} {a b:Value} {h:AH} {out:Out} (hh:absBin P op t x y a b h=some out):∃ v,out=.val v h:=by
 unfold absBin at hh
 repeat' split at hh
 all_goals first
  | exact valH_quiet hh
  | (cases hh;done)
  | (cases hh;exact ⟨_,rfl⟩)
theorem quiet_val {o:Oper} {h:AH} {out:Out} (hq:loud P o=false) (hh:absOp P ρ o h=some out):∃ v,out=.val v h:=by
 unfold loud at hq
 unfold absOp at hh
 cases ho:o.op with
 | binOp op t x y yt =>
  simp only [ho] at hh
  split at hh
  ·exact absBin_quiet hh
  ·cases hh
 | convert s d x =>
  simp only [ho] at hh hq
  split at hh
  ·unfold absConvert at hh
   split at hh
   ·rename_i h1 h2;rw [h1] at hq;cases hq
   ·split at hh
    ·exact valH_quiet hh
    ·cases hh
   ·split at hh
    ·exact valH_quiet hh
    ·cases hh
   ·split at hh
    ·exact valH_quiet hh
    ·exact valH_quiet hh
  ·cases hh
 | call c =>
  simp only [ho] at hh hq
  unfold absCall at hh
  obtain ⟨callee,args,ats⟩:=c
  cases callee with
  | value f=>cases hq
  | invoke f m=>cases hq
  | builtin b =>
   cases b
   case len =>
    simp only at hh
    repeat' split at hh
    all_goals first
     | exact valH_quiet hh
     | (cases hh;done)
   case min =>
    simp only at hh
    repeat' split at hh
    all_goals first
     | exact valH_quiet hh
     | (cases hh;done)
   case max =>
    simp only at hh
    repeat' split at hh
    all_goals first
     | exact valH_quiet hh
     | (cases hh;done)
   case real =>
    simp only at hh
    repeat' split at hh
    all_goals first
     | exact valH_quiet hh
     | (cases hh;done)
   case imag =>
    simp only at hh
    repeat' split at hh
    all_goals first
     | exact valH_quiet hh
     | (cases hh;done)
   case complex =>
    simp only at hh
    repeat' split at hh
    all_goals first
     | exact valH_quiet hh
     | (cases hh;done)
   all_goals (cases hq)
 | move x =>
  simp only [ho] at hh
  exact valH_quiet hh
 | assign x =>
  simp only [ho] at hh
  exact valH_quiet hh
 | pick c a b =>
  simp only [ho] at hh
  repeat' split at hh
  all_goals first
   | exact valH_quiet hh
   | (cases hh;done)
   | (cases hh;exact ⟨_,rfl⟩)
 | build t l =>
  simp only [ho] at hh
  repeat' split at hh
  all_goals first
   | exact valH_quiet hh
   | (cases hh;done)
   | (cases hh;exact ⟨_,rfl⟩)
 | load t x =>
  simp only [ho] at hh
  repeat' split at hh
  all_goals first
   | exact valH_quiet hh
   | (cases hh;done)
   | (cases hh;exact ⟨_,rfl⟩)
 | nilCheck x =>
  simp only [ho] at hh
  repeat' split at hh
  all_goals first
   | exact valH_quiet hh
   | (cases hh;done)
   | (cases hh;exact ⟨_,rfl⟩)
 | unOp op t x =>
  simp only [ho] at hh
  repeat' split at hh
  all_goals first
   | exact valH_quiet hh
   | (cases hh;done)
   | (cases hh;exact ⟨_,rfl⟩)
 | makeInterface t x =>
  simp only [ho] at hh
  repeat' split at hh
  all_goals first
   | exact valH_quiet hh
   | (cases hh;done)
   | (cases hh;exact ⟨_,rfl⟩)
 | slice t x l g m =>
  cases m with
  | some m =>
   simp only [ho] at hh
   repeat' split at hh
   all_goals first
    | exact valH_quiet hh
    | (cases hh;done)
    | (cases hh;exact ⟨_,rfl⟩)
  | none =>
   simp only [ho] at hh
   repeat' split at hh
   all_goals first
    | exact valH_quiet hh
    | (cases hh;done)
    | (cases hh;exact ⟨_,rfl⟩)
 | fieldAddr t x f =>
  simp only [ho] at hh
  repeat' split at hh
  all_goals first
   | exact valH_quiet hh
   | (cases hh;done)
   | (cases hh;exact ⟨_,rfl⟩)
 | field t x f =>
  simp only [ho] at hh
  repeat' split at hh
  all_goals first
   | exact valH_quiet hh
   | (cases hh;done)
   | (cases hh;exact ⟨_,rfl⟩)
 | indexAddr t x y =>
  simp only [ho] at hh
  repeat' split at hh
  all_goals first
   | exact valH_quiet hh
   | (cases hh;done)
   | (cases hh;exact ⟨_,rfl⟩)
 | index t x y =>
  simp only [ho] at hh
  repeat' split at hh
  all_goals first
   | exact valH_quiet hh
   | (cases hh;done)
   | (cases hh;exact ⟨_,rfl⟩)
 | typeAssert x a b c =>
  simp only [ho] at hh
  repeat' split at hh
  all_goals first
   | exact valH_quiet hh
   | (cases hh;done)
   | (cases hh;exact ⟨_,rfl⟩)
 | lookup t x k ok =>
  simp only [ho] at hh
  split at hh
  ·exact valH_quiet hh
  ·cases hh
 | entry it =>
  simp only [ho] at hh
  split at hh
  ·exact valH_quiet hh
  ·cases hh
 | extract x i =>
  simp only [ho] at hh
  repeat' split at hh
  all_goals first
   | exact valH_quiet hh
   | (cases hh;done)
   | (cases hh;exact ⟨_,rfl⟩)
 | makeFunc fn l m =>
  simp only [ho] at hh
  cases fn
  case func f =>
   simp only at hh
   split at hh
   ·cases hh;exact ⟨_,rfl⟩
   ·cases hh
  case method f =>
   simp only at hh
   split at hh
   ·cases hh;exact ⟨_,rfl⟩
   ·cases hh
  all_goals (cases hh)
 | _=>simp [ho] at hq
end
end Go.Ab
end
section
namespace Go.Ab
def Ren.still (E:Ren) (b:Nat) (c:Array Value):Ren:={ at_:=E.at_,soft:=E.soft,fro:=fun n=>if n=b then some c else E.fro n }
theorem RW.froz {P:Program} {E:Ren} {h:AH} {w:World} (r:RW P E h w) (c:Array Value) (e:TypeId) :
  RW P (E.still w.heap.size c) h { w with heap:=w.heap.push (.cells c e (0,0)) }∧Ext E w (E.still w.heap.size c) { w with heap:=w.heap.push (.cells c e (0,0)) }:=by
 obtain ⟨r1,x1⟩:=r.beside (.cells c e (0,0))
 have e1:w.alloc (.cells c e (0,0)) = { w with heap:=w.heap.push (.cells c e (0,0)) }:=rfl
 rw [e1] at r1 x1
 have le:E.Le (E.still w.heap.size c):=⟨fun _ _ h=>h,fun _ _ _=>rfl,fun _ _ h=>h,fun n d hd=>by
  simp only [Ren.still]
  rw [if_neg]
  ·exact hd
  ·rintro rfl
   have:=r.frzLt hd
   omega⟩
 refine ⟨⟨r1.glob,r1.dom,r1.sdom,fun k o s hk=>?_,r1.inj,fun n d hd=>?_,fun k o s n hk hn hf=>?_,r1.sep⟩,
  ⟨le,fun k n h=>.inl ⟨k,h⟩,x1.size,x1.frame,rfl,rfl,rfl,Nat.le_refl _,x1.ice⟩⟩
 ·obtain ⟨n,o',g1,g2,g3,g4⟩:=r1.live k o s hk
  exact ⟨n,o',g1,g2,g3.mono le,g4⟩
 ·simp only [Ren.still] at hd
  split at hd
  ·rename_i en;subst en;cases hd
   exact ⟨c,e,(0,0),by simp,Nat.le_refl _,fun _ _=>rfl⟩
  ·exact r1.frz n d hd
 ·simp only [Ren.still] at hf
  split at hf
  ·rename_i en;subst en
   have:=(r.dom k _ hn).2
   omega
  ·exact r1.icy k o s n hk hn hf
def inOrder (s:Nat):Nat→List (Nat × Value)→Bool
 | _,[]=>true
 | k,(i,v)::l=>i == k && v.cells.size == s && inOrder s (k + 1) l
theorem fillA_order {s:Nat}:∀ {l:List (Nat × Value)} {k:Nat} {c r:Array Value},inOrder s k l=true→fillA (fun i=>some (i * s,s)) c l=some r →
  r.size=c.size∧r.toList.take ((k + l.length) * s)=(c.toList.take (k * s))++flatC (l.map (·.2)):=by
 intro l
 induction l with
 | nil=>intro k c r _ h;cases h;simp [flatC]
 | cons x l ih =>
  intro k c r ho h
  obtain ⟨i,v⟩:=x
  simp only [inOrder,Bool.and_eq_true,beq_iff_eq] at ho
  obtain ⟨⟨rfl,hv⟩,ho⟩:=ho
  simp only [fillA] at h
  split at h
  ·cases h
  rename_i hc
  have hb:i * s + s ≤ c.size:=by
   simp only [Bool.or_eq_true,decide_eq_true_eq,not_or] at hc
   omega
  obtain ⟨h1,h2⟩:=ih ho h
  have hsz:(setFrom c (i * s) v.cells.toList).size=c.size:=setFrom_size ..
  refine ⟨by rw [h1,hsz],?_⟩
  have e1:(i + (l.length + 1)) * s=(i + 1 + l.length) * s:=by rw [show i + (l.length + 1)=i + 1 + l.length by omega]
  rw [List.length_cons,e1,h2]
  have e2:(setFrom c (i * s) v.cells.toList).toList.take ((i + 1) * s)=c.toList.take (i * s)++v.cells.toList:=by
   apply List.ext_getElem?
   intro j
   rw [List.getElem?_take,List.getElem?_append,Array.getElem?_toList,setFrom_get]
   simp only [Array.length_toList,List.length_take]
   rw [Nat.succ_mul]
   by_cases hj:j < i * s
   ·rw [if_pos (by omega),if_neg (by omega),if_pos (by omega),List.getElem?_take,if_pos hj,Array.getElem?_toList]
   ·by_cases hj2:j < i * s + s
    ·rw [if_pos hj2,if_pos (by omega),if_neg (by omega)]
     congr 1
     omega
    ·rw [if_neg hj2,if_neg (by omega),List.getElem?_eq_none]
     simp
     omega
  rw [e2]
  simp [flatC]
def opBuildFroz (P:Program) (t:TypeId) (len:Nat) (parts:List (Nat × Value)):Option Value :=
 match P.underlying t with
 | some (.slice elem)=>match P.info? elem with
  | some d=>if len * d.size > 2 ^ 24 ∨ d.size=0 ∨ parts.length ≠ len ∨ inOrder d.size 0 parts=false then none else match zerosOf P elem len with
   | some z=>match fillA (fun i=>some (i * d.size,d.size)) z parts with
    | some _=>some (VSl (parts.map (·.2)))
    | none=>none
   | none=>none
  | none=>none
 | _=>none
theorem opBuildFroz_run {P:Program} {E:Ren} {h:AH} {w:World} (r:RW P E h w) {t:TypeId} {len:Nat} {l:List (Nat × Value)} {l':Array (Nat × Value)} {v:Value}
  (hh:opBuildFroz P t len l=some v) (hp:Parts E l l'.toList) :
  ∃ E' v' w',(Instr.buildSlice t len l').run P w=.ok v' w'∧RW P E' h w'∧Ext E w E' w'∧RV E' v v':=by
 unfold opBuildFroz at hh
 split at hh
 ·rename_i elem e
  split at hh
  ·rename_i d hd
   split at hh
   ·cases hh
   ·rename_i hlim
    simp only [not_or] at hlim
    obtain ⟨hlim,hs0,hlen,hord⟩:=hlim
    split at hh
    ·rename_i z hz
     split at hh
     ·rename_i c hc
      cases hh
      obtain ⟨i,hi,hra,hcase⟩:=zerosOf_eq hz w
      rw [hd] at hi;cases hi
      obtain ⟨c',h1,h2⟩:=fillA_run hp (hra E) hc
      obtain ⟨q1,q2⟩:=fillA_order (by simpa using hord) hc
      obtain ⟨g1,g2⟩:=r.froz c' elem
      have hzs:z.size=len * d.size:=by
       rcases hcase with ⟨h0,rfl⟩ | ⟨h0,z',_,rfl⟩
       ·rw [h0];rfl
       ·simp
      have hcs:c.size=l.length * d.size:=by rw [q1,hzs];rw [Decidable.not_not.1 hlen]
      have hflat:c.toList=flatC (l.map (·.2)):=by
       have:=q2
       rw [Nat.zero_add,Nat.zero_mul,List.take_zero,List.nil_append,List.take_of_length_le (by rw [Array.length_toList,hcs];omega)] at this
       exact this
      have hsz:∀ v ∈ l.map (·.2),v.cells.size=d.size:=by
       have:∀ (l:List (Nat × Value)) k,inOrder d.size k l=true→∀ v ∈ l.map (·.2),v.cells.size=d.size:=by
        intro l
        induction l with
        | nil=>intro k _ v hv;cases hv
        | cons x l ih =>
         intro k ho v hv
         obtain ⟨i,u⟩:=x
         simp only [inOrder,Bool.and_eq_true,beq_iff_eq] at ho
         rcases List.mem_cons.1 hv with rfl | hv
         ·exact ho.1.2
         ·exact ih _ ho.2 v hv
       exact this l 0 (by simpa using hord)
      refine ⟨_,.slice (some ⟨w.heap.size,0,none⟩) len len,_,?_,g1,g2,?_⟩
      ·rcases hcase with ⟨h0,rfl⟩ | ⟨h0,z',hz',rfl⟩
       ·simp only [Instr.buildSlice,Sem.run_bind,und_run e,Result.andThen_ok,siz_run hd,if_neg hlim,if_pos h0,Sem.run_pure]
        have:(Array.range (len * d.size)).map (fun k=>(#[]:Array Value)[k % (#[]:Array Value).size]!) = #[]:=by rw [h0];simp
        rw [this,h1]
        simp [newRow,run_newObj]
       ·simp only [Instr.buildSlice,Sem.run_bind,und_run e,Result.andThen_ok,siz_run hd,if_neg hlim,if_neg h0,hz',Sem.run_pure]
        rw [h1]
        simp [newRow,run_newObj]
      ·have hll:(l.map (·.2)).length=len:=by rw [List.length_map];exact Decidable.not_not.1 hlen
       have:=RV.vs (E:=E.still w.heap.size c') (l:=l.map (·.2)) (b':=w.heap.size) (off:=0) (cap:=len) (s:=d.size) (c:=c') (by simp [Ren.still]) (by omega) hsz
        (by rw [← h2.1,hcs,List.length_map];omega) (by omega) fun i v v' hv hv'=>by
         rw [← hflat,Array.getElem?_toList] at hv
         rw [Nat.zero_add] at hv'
         exact (h2.2 i v v' hv hv').mono g2.le
       rw [hll] at this
       exact this
     ·cases hh
    ·cases hh
  ·cases hh
 ·cases hh
def varArg (ops:Array Oper) (o:Oper):Bool:=match o.op,o.dst with
 | .buildSlice ..,some d=>ops.all fun x=>match x.op with
  | .call c=>match c.callee,c.args.toList with
   | .builtin .append,[.tmp s,_]=>s != d
   | _,l=>l.all fun y=>match y with | .tmp s=>s != d | _=>true
  | op=>op.operands.all fun y=>match y with | .tmp s=>s != d | _=>true
 | _,_=>false
def frozOf (P:Program) (ρ:Operand→Option Value) (o:Oper):Option Value:=match o.op with
 | .buildSlice t n parts=>match partsOf ρ parts.toList with
  | some l=>opBuildFroz P t n l
  | none=>none
 | _=>none
theorem frozOf_ok {P:Program} {E:Ren} {h:AH} {w:World} {ρ:Operand→Option Value} {ρ':Operand→Value} (r:RW P E h w) (hr:OpsOk E ρ ρ') {o:Oper} {v:Value} (hh:frozOf P ρ o=some v) :
  (∀ c,o.op ≠ .defer c)∧∃ E' v' w',(execOp ρ' o).run P w=.ok (.value v') w'∧RW P E' h w'∧Ext E w E' w'∧RV E' v v':=by
 unfold frozOf at hh
 split at hh
 ·rename_i t n parts e
  split at hh
  ·rename_i l hl
   obtain ⟨E',v',w',h1,h2,h3,h4⟩:=opBuildFroz_run (l':=parts.map fun (i,x)=>(i,ρ' x)) r hh (by simpa using partsOf_ok hr hl)
   refine ⟨fun c hc=>(by rw [e] at hc;cases hc),E',v',w',?_,h2,h3,h4⟩
   unfold execOp
   rw [e]
   exact val_run h1
  ·cases hh
 ·cases hh
end Go.Ab
end
section
namespace Go.Ab
structure Rec where
 o:Oper
 a:AA
 h:AH
 v:Value
 q:Bool
 h':AH
def stepAt (P:Program) (call:CallF) (ops:Array Oper) (o:Oper) (a:AA) (h:AH):Option (Value × Bool × AH) :=
 if a.knows ops o then
 if Region.wanted o (a.yielded ops) then
  match (if varArg ops o then frozOf P (a.opnd P) o else none) with
  | some v=>some (v,false,h)
  | none=>match absOp P (a.opnd P) o h with
   | some (.val v h')=>some (v,loud P o,h')
   | some (.unit h')=>some (undef,true,h')
   | some (.enter f args h')=>call f args h'
   | none=>none
 else some (undef,false,h)
 else none
def trace (P:Program) (call:CallF) (ops:Array Oper):List Oper→AA→AH→Option (List Rec × AA × AH)
 | [],a,h=>some ([],a,h)
 | o::l,a,h=>match stepAt P call ops o a h with
  | some (v,q,h')=>match trace P call ops l (a.put o.dst v) h' with
   | some (rs,a₂,h₂)=>some (⟨o,a,h,v,q,h'⟩::rs,a₂,h₂)
   | none=>none
  | none=>none
def lastB (p:Nat→Bool):Nat→Option Nat
 | 0=>none
 | n + 1=>if p n then some n else lastB p n
theorem lastB_none {p:Nat→Bool}:∀ {n:Nat},lastB p n=none→∀ k,k < n→p k=false:=by
 intro n
 induction n with
 | zero=>intro _ k hk;omega
 | succ n ih =>
  intro h k hk
  simp only [lastB] at h
  split at h
  ·cases h
  ·rename_i hp
   by_cases e:k=n
   ·subst e;simpa using hp
   ·exact ih h k (by omega)
theorem lastB_some {p:Nat→Bool}:∀ {n l:Nat},lastB p n=some l→l < n∧p l=true∧∀ k,k < n→p k=true→k ≤ l:=by
 intro n
 induction n with
 | zero=>intro l h;cases h
 | succ n ih =>
  intro l h
  simp only [lastB] at h
  split at h
  ·rename_i hp;cases h;exact ⟨by omega,hp,fun k hk _=>by omega⟩
  ·rename_i hp
   obtain ⟨h1,h2,h3⟩:=ih h
   refine ⟨by omega,h2,fun k hk hpk=>?_⟩
   by_cases e:k=n
   ·subst e;exact absurd hpk hp
   ·exact h3 k (by omega) hpk
theorem lastB_congr {p q:Nat→Bool}:∀ {n:Nat},(∀ k,k < n→p k=q k)→lastB p n=lastB q n:=by
 intro n
 induction n with
 | zero=>intro _;rfl
 | succ n ih =>
  intro h
  simp only [lastB]
  rw [h n (by omega),ih fun k hk=>h k (by omega)]
theorem lastB_cut {p:Nat→Bool} {i:Nat}:∀ {n:Nat},i ≤ n→(∀ k,i ≤ k→k < n→p k=false)→lastB p n=lastB p i:=by
 intro n
 induction n with
 | zero=>intro h _;rw [Nat.le_zero.1 h]
 | succ n ih =>
  intro h hp
  by_cases e:i=n + 1
  ·rw [e]
  ·simp only [lastB]
   rw [hp n (by omega) (by omega)]
   exact ih (by omega) fun k h1 h2=>hp k h1 (by omega)
theorem lastB_at {p:Nat→Bool} {i n:Nat} (h:i < n) (hi:p i=true) (hp:∀ k,i < k→k < n→p k=false):lastB p n=some i:=by
 rw [lastB_cut (i:=i + 1) (by omega) fun k h1 h2=>hp k (by omega) h2]
 simp only [lastB,hi,if_true]
def readsOf (ops:Array Oper) (o:Oper):List Nat :=
 (o.op.operands.toList.filterMap fun | .tmp t=>some t | _=>none)++(match o.guard with | some (j,_)=>((ops[j]?).bind (·.dst)).toList | none=>[])
theorem step_congr {P:Program} {call:CallF} {ops:Array Oper} {o:Oper} {a b:AA} (hn:a.n=b.n) (hr:∀ t ∈ readsOf ops o,a.get t=b.get t) (h:AH) :
  stepAt P call ops o a h=stepAt P call ops o b h:=by
 have h0:∀ j want,o.guard=some (j,want)→∀ d,(ops[j]?).bind (·.dst)=some d→a.get d=b.get d:=fun j want hg d hd=>hr d (by simp [readsOf,hg,hd])
 have h1:a.knows ops o=b.knows ops o:=by
  unfold AA.knows
  cases hg:o.guard with
  | none=>rfl
  | some jw =>
   obtain ⟨j,want⟩:=jw
   simp only
   cases hd:(ops[j]?).bind (·.dst) with
   | none=>rfl
   | some d=>simp only [hn];rw [h0 j want hg d hd]
 have h2:Region.wanted o (a.yielded ops)=Region.wanted o (b.yielded ops):=by
  unfold Region.wanted
  cases hg:o.guard with
  | none=>rfl
  | some jw =>
   obtain ⟨j,want⟩:=jw
   simp only
   have:a.yielded ops j=b.yielded ops j:=by
    unfold AA.yielded
    cases hd:(ops[j]?).bind (·.dst) with
    | none=>rfl
    | some d=>simp only [hn];rw [h0 j want hg d hd]
   rw [this]
 have h3:absOp P (a.opnd P) o h=absOp P (b.opnd P) o h:=by
  refine absOp_congr fun x hx=>?_
  cases x with
  | tmp t =>
   have:t ∈ readsOf ops o:=List.mem_append_left _ (List.mem_filterMap.2 ⟨.tmp t,hx,rfl⟩)
   simp only [AA.opnd,hr t this]
  | _=>rfl
 have h4:frozOf P (a.opnd P) o=frozOf P (b.opnd P) o:=by
  unfold frozOf
  split
  ·rename_i t n parts ho
   have:partsOf (a.opnd P) parts.toList=partsOf (b.opnd P) parts.toList:=partsOf_congr fun x hx=>by
    obtain ⟨i,y⟩:=x
    cases y with
    | tmp t =>
     have:t ∈ readsOf ops o:=List.mem_append_left _ (List.mem_filterMap.2 ⟨.tmp t,by rw [ho];simp only [Op.operands];simpa using ⟨i,by simpa using hx⟩,rfl⟩)
     simp only [AA.opnd,hr t this]
    | _=>rfl
   rw [this]
  ·rfl
 unfold stepAt
 rw [h1,h2,h3,h4]
theorem enter_same {P:Program} {ρ:Operand→Option Value} {o:Oper} {h h':AH} {f:FuncId} {args:Array Value} (hh:absOp P ρ o h=some (.enter f args h')):h' = h:=by
 have noVal:∀ {v:Option Value},valH h v=some (.enter f args h')→False:=fun e=>by obtain ⟨u,_,e⟩:=valH_eq e;cases e
 have noValP:∀ {v:Option (Value × AH)},valP v=some (.enter f args h')→False:=fun e=>by obtain ⟨u,g,_,e⟩:=valP_eq e;cases e
 have ent:∀ {g:FuncId} {l:List Value},enterOf P g l h=some (.enter f args h')→h' = h:=by
  intro g l e
  unfold enterOf at e
  repeat' split at e
  all_goals first
   | (exact (noValP e).elim)
   | (cases e;done)
   | (cases e;rfl)
 unfold absOp at hh
 repeat' split at hh
 all_goals first
  | (cases hh;done)
  | (exact (noVal hh).elim)
  | (exact (noValP hh).elim)
  | skip
 ·unfold absBin at hh
  repeat' split at hh
  all_goals first
   | (cases hh;done)
   | (exact (noVal hh).elim)
 ·unfold absConvert at hh
  repeat' split at hh
  all_goals first
   | (cases hh;done)
   | (exact (noVal hh).elim)
 ·unfold absCall at hh
  repeat' split at hh
  all_goals first
   | (cases hh;done)
   | (exact (noVal hh).elim)
   | (exact (noValP hh).elim)
   | exact ent hh
theorem quiet_step {P:Program} {call:CallF} (hc:CallOk P call) {ops:Array Oper} {o:Oper} {a:AA} {h h':AH} {v:Value} (hs:stepAt P call ops o a h=some (v,false,h')):h' = h:=by
 unfold stepAt at hs
 split at hs
 case isFalse=>cases hs
 split at hs
 ·split at hs
  ·cases hs;rfl
  split at hs
  ·rename_i u g hop
   have e1:loud P o=false:=congrArg (fun x=>x.2.1) (Option.some.inj hs)
   obtain ⟨u2,hu⟩:=quiet_val e1 hop
   cases hu
   exact (congrArg (fun x=>x.2.2) (Option.some.inj hs)).symm
  ·cases hs
  ·rename_i f args g hop
   rw [(hc f args g v false h' hs).1 rfl,enter_same hop]
  ·cases hs
 ·cases hs;rfl
theorem step_wp {P:Program} {ro:Option Nat} {D:List Deferred} {call:CallF} (hc:CallOk P call) {ops:Array Oper} {o:Oper} {a:AA} {h h':AH} {v:Value} {q:Bool} (hs:stepAt P call ops o a h=some (v,q,h'))
  {E:Ren} {w:World} {y:Act} (r:RW P E h w) (rt:RT E a y.tmps) (hd:y.defers=D) {K:Act→World→Prop} {Q:Exit→Act→World→Prop}
  (hK:∀ E' w' z,RW P E' h' w'→Ext E w E' w'→RT E' (a.put o.dst v) z.tmps→z.defers=D→K z w') :
  if Region.wanted o (Go.yielded ops y.tmps) then o.wpR ro P y w K Q else K (y.put o.dst undef) w:=by
 have hput:∀ (d:Option Tmp) (v:Value),(y.put d v).defers=D:=fun d v=>by cases d <;> exact hd
 unfold stepAt at hs
 split at hs
 case isFalse=>cases hs
 rename_i hk
 rw [← rt.yielded ops hk]
 split at hs
 ·rename_i hw
  rw [if_pos hw]
  split at hs
  ·rename_i u hfz
   cases hs
   split at hfz
   case isFalse=>cases hfz
   obtain ⟨hnd,E',v',w',h1,h2,h3,h4⟩:=frozOf_ok r (rt.opnd r) hfz
   refine wpR_value hnd h1 ?_
   exact hK E' w' _ h2 h3 ((rt.mono h3.le).put o.dst h4) (hput _ _)
  split at hs
  ·rename_i u g hop
   have e1:u=v:=congrArg (fun x=>x.1) (Option.some.inj hs)
   have e2:g=h':=congrArg (fun x=>x.2.2) (Option.some.inj hs)
   subst e1 e2
   obtain ⟨E',v',w',h1,h2,h3,h4⟩:=absOp_ok r (rt.opnd r) hop
   refine wpR_value (abs_nodefer hop) h1 ?_
   exact hK E' w' _ h2 h3 ((rt.mono h3.le).put o.dst h4) (hput _ _)
  ·rename_i g hop
   cases hs
   obtain ⟨E',w',h1,h2,h3⟩:=absOp_ok r (rt.opnd r) hop
   refine wpR_skip (abs_nodefer hop) h1 ?_
   exact hK E' w' _ h2 h3 ((rt.mono h3.le).put o.dst rv_undef) (hput _ _)
  ·rename_i f args g hop
   obtain ⟨E',args',w',h1,h2,h3,h4⟩:=absOp_ok r (rt.opnd r) hop
   refine wpR_enter (abs_nodefer hop) h1 ?_
   refine ((hc f args g v q h' hs).2 E' w' args' h2 h4).mono ?_
   rintro e w'' ⟨E'',v',rfl,q1,q2,q3⟩
   exact hK E'' w'' _ q1 (h3.trans q2) (((rt.mono h3.le).mono q2.le).put o.dst q3) (hput _ _)
  ·cases hs
 ·rename_i hw
  rw [if_neg hw]
  cases hs
  exact hK E w _ r (.refl E w) (rt.put o.dst rv_undef) (hput _ _)
section
variable {P:Program} {call:CallF} {ops:Array Oper}
theorem trace_get:∀ {l:List Oper} {a:AA} {h:AH} {rs:List Rec} {a₂:AA} {h₂:AH},trace P call ops l a h=some (rs,a₂,h₂) →
  rs.length=l.length∧(∀ (i:Nat) r,rs[i]?=some r→l[i]?=some r.o∧stepAt P call ops r.o r.a r.h=some (r.v,r.q,r.h')) ∧
  (∀ r,rs[0]?=some r→r.a=a∧r.h=h)∧(∀ (i:Nat) r q,rs[i]?=some r→rs[i + 1]?=some q→q.a=r.a.put r.o.dst r.v∧q.h=r.h') ∧
  (rs=[]→a₂=a∧h₂=h)∧(∀ r,rs[rs.length - 1]?=some r→a₂=r.a.put r.o.dst r.v∧h₂=r.h'):=by
 intro l
 induction l with
 | nil=>intro a h rs a₂ h₂ ht;cases ht;simp
 | cons o l ih =>
  intro a h rs a₂ h₂ ht
  simp only [trace] at ht
  split at ht
  ·rename_i v q h' hs
   split at ht
   ·rename_i rs' a₃ h₃ ht'
    cases ht
    obtain ⟨q1,q2,q3,q4,q5,q6⟩:=ih ht'
    refine ⟨by simp [q1],fun i r hr=>?_,fun r hr=>?_,fun i r q hr hq=>?_,(fun e=>by cases e),fun r hr=>?_⟩
    ·cases i with
     | zero=>simp at hr;subst hr;exact ⟨rfl,hs⟩
     | succ i=>simpa using q2 i r (by simpa using hr)
    ·simp at hr;subst hr;exact ⟨rfl,rfl⟩
    ·cases i with
     | zero =>
      simp at hr hq;subst hr
      obtain ⟨g1,g2⟩:=q3 q (by simpa using hq)
      exact ⟨g1,g2⟩
     | succ i=>exact q4 i r q (by simpa using hr) (by simpa using hq)
    ·cases hrs:rs' with
     | nil =>
      subst hrs
      simp at hr;subst hr
      exact q5 rfl
     | cons r0 rs0 =>
      refine q6 r ?_
      rw [hrs] at hr ⊢
      simpa using hr
   ·cases ht
  ·cases ht
end
end Go.Ab
end
section
namespace Go.Ab
def writesAt (rs:List Rec) (n t k:Nat):Bool:=match rs[k]? with | some r=>r.o.dst == some t && decide (t < n) | none=>false
def loudAt (rs:List Rec) (k:Nat):Bool:=match rs[k]? with | some r=>r.q | none=>false
def valT (rs:List Rec) (a:AA) (t:Nat) (q:Option Nat):Option Value:=match q with | none=>a.get t | some k=>match rs[k]? with | some r=>some r.v | none=>a.get t
def heapT (rs:List Rec) (h:AH) (q:Option Nat):AH:=match q with | none=>h | some k=>match rs[k]? with | some r=>r.h' | none=>h
theorem put_n (a:AA) (d:Option Tmp) (v:Value):(a.put d v).n=a.n:=by
 cases d with
 | none=>rfl
 | some d=>simp only [AA.put];split <;> rfl
section
variable {P:Program} {call:CallF} {ops:Array Oper} {a a₂:AA} {h h₂:AH} {rs:List Rec}
theorem text_get (hc:CallOk P call) (ht:trace P call ops ops.toList a h=some (rs,a₂,h₂)):∀ (i:Nat) r,rs[i]?=some r →
  r.a.n=a.n∧(∀ t,r.a.get t=valT rs a t (lastB (writesAt rs a.n t) i))∧r.h=heapT rs h (lastB (loudAt rs) i):=by
 obtain ⟨q1,q2,q3,q4,q5,q6⟩:=trace_get ht
 intro i
 induction i with
 | zero =>
  intro r hr
  obtain ⟨e1,e2⟩:=q3 r hr
  rw [e1,e2]
  exact ⟨rfl,fun t=>rfl,rfl⟩
 | succ i ih =>
  intro r hr
  have hlt:i < rs.length:=by have:=(List.getElem?_eq_some_iff.1 hr).1;omega
  have hp:rs[i]?=some rs[i]:=List.getElem?_eq_getElem hlt
  obtain ⟨g1,g2,g3⟩:=ih rs[i] hp
  obtain ⟨e1,e2⟩:=q4 i rs[i] r hp hr
  obtain ⟨s1,s2⟩:=q2 i rs[i] hp
  refine ⟨by rw [e1,put_n,g1],fun t=>?_,?_⟩
  ·rw [e1]
   simp only [lastB,writesAt,hp]
   cases hd:rs[i].o.dst with
   | none=>simp only [AA.put];rw [g2];rfl
   | some d =>
    rw [AA.get_put,g1]
    by_cases hdt:d=t∧d < a.n
    ·obtain ⟨rfl,hdn⟩:=hdt
     simp [hdn,valT,hp]
    ·rw [if_neg hdt,g2]
     have:(some d == some t && decide (t < a.n))=false:=by
      rw [Bool.and_eq_false_iff]
      by_cases e:d=t
      ·subst e;right;simpa using fun h=>hdt ⟨rfl,h⟩
      ·left;simpa using e
     rw [this]
     rfl
  ·rw [e2]
   simp only [lastB,loudAt,hp]
   cases hl:rs[i].q with
   | true=>simp [heapT,hp]
   | false =>
    rw [hl] at s2
    rw [quiet_step hc s2,g3]
    rfl
theorem text_end (hc:CallOk P call) (ht:trace P call ops ops.toList a h=some (rs,a₂,h₂)) :
  a₂.n=a.n∧(∀ t,a₂.get t=valT rs a t (lastB (writesAt rs a.n t) ops.size))∧h₂=heapT rs h (lastB (loudAt rs) ops.size):=by
 obtain ⟨q1,q2,q3,q4,q5,q6⟩:=trace_get ht
 have q1':rs.length=ops.size:=by rw [q1];simp
 cases hn:ops.size with
 | zero =>
  have:rs=[]:=by apply List.eq_nil_of_length_eq_zero;omega
  obtain ⟨rfl,rfl⟩:=q5 this
  exact ⟨rfl,fun t=>rfl,rfl⟩
 | succ i =>
  have hlt:i < rs.length:=by omega
  have hp:rs[i]?=some rs[i]:=List.getElem?_eq_getElem hlt
  obtain ⟨g1,g2,g3⟩:=text_get hc ht i rs[i] hp
  obtain ⟨e1,e2⟩:=q6 rs[i] (by rw [q1',hn];exact hp)
  obtain ⟨s1,s2⟩:=q2 i rs[i] hp
  refine ⟨by rw [e1,put_n,g1],fun t=>?_,?_⟩
  ·rw [e1]
   simp only [lastB,writesAt,hp]
   cases hd:rs[i].o.dst with
   | none=>simp only [AA.put];rw [g2];rfl
   | some d =>
    rw [AA.get_put,g1]
    by_cases hdt:d=t∧d < a.n
    ·obtain ⟨rfl,hdn⟩:=hdt
     simp [hdn,valT,hp]
    ·rw [if_neg hdt,g2]
     have:(some d == some t && decide (t < a.n))=false:=by
      rw [Bool.and_eq_false_iff]
      by_cases e:d=t
      ·subst e;right;simpa using fun h=>hdt ⟨rfl,h⟩
      ·left;simpa using e
     rw [this]
     rfl
  ·rw [e2]
   simp only [lastB,loudAt,hp]
   cases hl:rs[i].q with
   | true=>simp [heapT,hp]
   | false =>
    rw [hl] at s2
    rw [quiet_step hc s2,g3]
    rfl
structure Ordered (P:Program) (call:CallF) (ops:Array Oper) (rs:List Rec) (n:Nat) (h:AH) (pl:Nat→List Nat):Prop where
 ahead:∀ m i l,Good m ops (i::l)→∀ j ∈ pl i,j ∈ l
 tm:∀ i k x y d,rs[i]?=some x→rs[k]?=some y→i ≠ k→y.o.dst=some d→d < n→(d ∈ readsOf ops x.o ∨ x.o.dst=some d)→(k < i→k ∈ pl i)∧(i < k→i ∈ pl k)
 ld:∀ i k,loudAt rs i=true→loudAt rs k=true→k < i→k ∈ pl i
 rd:∀ i r,rs[i]?=some r→r.q=false→∀ q:Option Nat,(∀ l,q=some l→loudAt rs l=true) →
  (∀ p ∈ pl i,loudAt rs p=true→∃ l,q=some l∧p ≤ l)→(∀ l',loudAt rs l' = true→(∃ l,q=some l∧l' ≤ l)→i ∉ pl l') →
  stepAt P call ops r.o r.a (heapT rs h q)=some (r.v,false,heapT rs h q)
end
end Go.Ab
end
