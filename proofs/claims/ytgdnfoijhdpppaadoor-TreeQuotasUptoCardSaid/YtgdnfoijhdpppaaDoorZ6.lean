import Derived.Lib.UnsafeStr
import Derived.Test.YtgdnfoijhdpppaaDoorZ5
set_option linter.unusedVariables false
set_option linter.unusedSimpArgs false
section
namespace Go.Ab
def opSliceData (v:Value):Option Value:=match v with
 | .slice none _ _=>some (.pointer none)
 | .slice (some ⟨k,off,none⟩) _ cap=>if cap ≠ 0 then some (.pointer (some ⟨k,off,none⟩)) else none
 | _=>none
theorem opSliceData_run {P:Program} {E:Ren} {w:World} {v v' u:Value} (ts:Array TypeId) (ty:TypeId) (hh:opSliceData v=some u) (hv:RV E v v') :
  ∃ u',(Builtin.unsafeSliceData_ ts ty #[v']).run P w=.ok u' w∧RV E u u':=by
 unfold opSliceData at hh
 split at hh
 ·cases hh
  cases hv with
  | nilSlice=>exact ⟨_,Lib.run_unsafeSliceData_nil w ts ty _ _,.nilPtr⟩
 ·rename_i k off len cap
  split at hh
  ·rename_i hc
   cases hh
   cases hv with
   | slice hat hs=>exact ⟨_,Lib.run_unsafeSliceData_row w ts ty _ _ _ hc,.ptr hat⟩
   | softSlice hat hs ho hcc hle=>exact ⟨_,Lib.run_unsafeSliceData_row w ts ty _ _ _ (by omega),.ptr hat⟩
   | stub hs=>exact absurd rfl hc
  ·cases hh
 ·cases hh
theorem loadBytes_ints {P:Program} {w:World}:∀ (ns:List Int) (a:Addr) (acc:ByteArray),(∀ j n,ns[j]?=some n→w.cell? (a.add j)=some (.int .u8 n)) →
  (loadBytes a acc ns.length).run P w=.ok (ns.foldl (fun r n=>r.push (UInt8.ofNat n.toNat)) acc) w
 | [],a,acc,_=>by simp [loadBytes]
 | x::l,a,acc,h=>by
  have h0:w.cell? a=some (.int .u8 x):=by
   have:=h 0 x rfl
   simpa [Addr.add] using this
  have ih:=loadBytes_ints (P:=P) l (a.add 1) (acc.push (UInt8.ofNat x.toNat)) (fun j y hy=>by
   have:=h (j + 1) y (by simpa using hy)
   have e:(a.add 1).add j=a.add (j + 1):=by
    unfold Addr.add
    by_cases hj:j=0
    ·subst hj;simp
    ·simp [hj];omega
   rw [e];exact this)
  simp only [List.length_cons,loadBytes,Sem.run_bind,run_load,h0,Result.andThen,List.foldl_cons]
  exact ih
def opUString (P:Program) (h:AH) (pt:TypeId) (p n:Value):Option (Value × AH):=match p,n with
 | .pointer a,.int .i64 m=>if m=0 then some (.string .empty,h) else match a with
  | some ⟨k,0,none⟩=>match h.get k with
   | some (.cells c e (0,0),s)=>match P.underlying pt with
    | some (.pointer e')=>if e' = e∧P.cellsOf e=1∧0 < m∧m ≤ c.size∧m ≤ 9223372036854775807 then match intsOf (c.toList.take m.toNat) with
     | some ns=>some (.string (ns.foldl (fun r n=>r.push (UInt8.ofNat n.toNat)) ByteArray.empty),h.put k (some (.cells c e (0,1),s)))
     | none=>none
     else none
    | _=>none
   | _=>none
  | _=>none
 | _,_=>none
theorem RW.freeze {P:Program} {E:Ren} {h:AH} {w:World} (r:RW P E h w) {k b:Nat} {c:Array Value} {e:TypeId} {s:Option Nat} (hk:h.get k=some (.cells c e (0,0),s)) (hat:E.at_ k=some b) (n:Nat) :
  RW P E (h.put k (some (.cells c e (0,1),s))) (w.freeze ⟨b,0,none⟩ n)∧Ext E w E (w.freeze ⟨b,0,none⟩ n):=by
 obtain ⟨cw,fz,g1,g2,g3,g4⟩:=r.cells hk hat
 have fin:∀ fz',RW P E (h.put k (some (.cells c e (0,1),s))) { w with heap:=w.heap.setIfInBounds b (.cells cw e fz') }∧Ext E w E { w with heap:=w.heap.setIfInBounds b (.cells cw e fz') }:=fun fz' =>
  r.put hk rfl hat (.ice g2 (fun hs=>r.exact hk hat g1 hs) g3)
 unfold World.freeze
 split
 ·have:=fin fz
  have e1:w.heap.setIfInBounds b (.cells cw e fz)=w.heap:=by
   apply Array.ext_getElem?
   intro i
   rw [Array.getElem?_setIfInBounds]
   split
   ·rename_i hi;subst hi
    rw [g1]
    rw [if_pos (Array.getElem?_eq_some_iff.1 g1).1]
   ·rfl
  rw [e1] at this
  exact this
 ·obtain ⟨lo,hi⟩:=fz
  have:=fin (if lo == hi then (0,0 + n) else (min lo 0,max hi (0 + n)))
  have e1:w.heap.setIfInBounds b (.cells cw e (if lo == hi then (0,0 + n) else (min lo 0,max hi (0 + n)))) =
    w.heap.modify b fun
     | .cells c elem (lo,hi)=>.cells c elem (if lo == hi then (0,0 + n) else (min lo 0,max hi (0 + n)))
     | o=>o:=by
   apply Array.ext_getElem?
   intro i
   rw [Array.getElem?_setIfInBounds,Array.getElem?_modify]
   split
   ·rename_i hi;subst hi
    rw [g1,if_pos (Array.getElem?_eq_some_iff.1 g1).1]
    rfl
   ·rfl
  rw [e1] at this
  exact this
theorem opUString_run {P:Program} {E:Ren} {h h':AH} {w:World} (r:RW P E h w) {pt it ty:TypeId} {p n p' n' v:Value} (hh:opUString P h pt p n=some (v,h')) (hp:RV E p p') (hn:RV E n n') :
  ∃ E' v' w',(Builtin.unsafeString_ #[pt,it] ty #[p',n']).run P w=.ok v' w'∧RW P E' h' w'∧Ext E w E' w'∧RV E' v v':=by
 unfold opUString at hh
 split at hh
 case h_2=>cases hh
 rename_i a m
 cases hn
 split at hh
 ·rename_i hm
  subst hm
  cases hh
  have:∃ a',p' = .pointer a':=by cases hp <;> exact ⟨_,rfl⟩
  obtain ⟨a',rfl⟩:=this
  exact ⟨E,_,w,Lib.run_unsafeString_none w pt it ty a',r,.refl E w,.string _⟩
 ·rename_i hm
  split at hh
  case h_2=>cases hh
  rename_i k
  split at hh
  case h_2=>cases hh
  rename_i c e s hg
  split at hh
  case h_2=>cases hh
  rename_i e' h1
  split at hh
  case isFalse=>cases hh
  rename_i hc
  obtain ⟨he,h2,h3,h4,h5⟩:=hc
  subst he
  split at hh
  case h_2=>cases hh
  rename_i ns hns
  cases hh
  cases hp with
  | ptr hat =>
   rename_i b
   obtain ⟨cw,fz,g1,g2,g3,g4⟩:=r.cells hg hat
   obtain ⟨q1,q2⟩:=r.freeze hg hat m.toNat
   refine ⟨E,_,_,?_,q1,q2,.string _⟩
   have hnl:ns.length=m.toNat∧∀ (j:Nat) (x:Int),ns[j]?=some x→c[j]?=some (Value.int .u8 x):=by
    have:=intsOf_eq hns
    refine ⟨?_,fun j x hx=>?_⟩
    ·have e1:=congrArg List.length this
     simp at e1
     omega
    ·have e1:=congrArg (fun l=>l[j]?) this
     simp only [List.getElem?_map,hx,Option.map_some,List.getElem?_take] at e1
     split at e1
     ·rw [Array.getElem?_toList] at e1;exact e1
     ·cases e1
   have hload:=loadBytes_ints (P:=P) (w:=w) ns ⟨b,0,none⟩ .empty (fun j x hx=>by
    have h0:=hnl.2 j x hx
    have hlt:j < cw.size:=by
     have:=(Array.getElem?_eq_some_iff.1 h0).1
     omega
    have h6:=g3 j _ _ h0 (Array.getElem?_eq_getElem hlt)
    have h7:cw[j]?=some (Value.int .u8 x):=by
     rw [Array.getElem?_eq_getElem hlt]
     generalize hz:cw[j]=z at h6
     cases h6
     rfl
    have ea:(⟨b,0,none⟩:Addr).add j=⟨b,j,none⟩:=by
     unfold Addr.add
     by_cases hj:j=0
     ·subst hj;simp
     ·simp [hj]
    rw [ea]
    simp [World.cell?,g1,h7])
   rw [hnl.1] at hload
   have hsh:w.shape? b=some (e',cw.size):=by simp [World.shape?,g1]
   have hlies:=Lib.liesAt_bytes (P:=P) h2 (cw.size / P.cellsOf e') m.toNat (by rw [h2];simp;omega)
   have hdef:Builtin.unsafeString_ #[pt,it] ty #[.pointer (some ⟨b,0,none⟩),.int .i64 m] =
     (do
      let n ← asInt (.int .i64 m)
      if n < 0 then runtimePanic (.error "unsafe.String: len out of range")
      if n > IntKind.i64.max then unsupported (.unsafePointer "String: a length above the largest int")
      if n=0 then pure (.string .empty)
      else if ← variablesAt ⟨b,0,none⟩ (← elemOf pt) n.toNat then do
       let s ← loadBytes ⟨b,0,none⟩ .empty n.toNat
       Go.freeze ⟨b,0,none⟩ n.toNat
       pure (.string s)
      else unsupported (.unsafePointer "String: not so many bytes at ptr")):=rfl
   rw [hdef]
   have hmax:IntKind.i64.max=9223372036854775807:=rfl
   have hneg:¬ m < 0:=by omega
   have hbig:¬ (9223372036854775807:Int) < m:=by omega
   simp [asInt,asIntOf,hmax,hbig,hneg,hm,variablesAt,hsh,elemOf,run_underlying h1,hlies,hload]
def opClone (h:AH) (v:Value):Option (Value × AH):=match v with
 | .iface t (.map (some r))=>match h.get r with
  | some (.map es clock,_)=>some (.iface t (.map (some h.size)),h.push (.map es clock) none)
  | _=>none
 | _=>none
theorem opClone_run {P:Program} {E:Ren} {h h':AH} {w:World} (r:RW P E h w) {x x' v:Value} (hh:opClone h x=some (v,h')) (hx:RV E x x') :
  ∃ E' v' w',(Extern.MapsClone.clone #[x']).run P w=.ok v' w'∧RW P E' h' w'∧Ext E w E' w'∧RV E' v v':=by
 unfold opClone at hh
 split at hh
 case h_2=>cases hh
 rename_i t k
 split at hh
 case h_2=>cases hh
 rename_i es clock s hg
 cases hh
 cases hx with
 | iface _ hx =>
  cases hx with
  | map hat =>
   obtain ⟨n,o',h1,h2,h3,h4⟩:=r.live _ _ _ hg
   rw [hat] at h1;cases h1
   cases h3 with
   | map _ hn hm =>
    rename_i es'
    obtain ⟨a,b⟩:=r.push (o:=.map es clock) (o':=.map es' clock) none (.map clock hn fun i x y p q=>⟨(hm i x y p q).1.mono (Ren.le_add r _ _),(hm i x y p q).2.1.mono (Ren.le_add r _ _),(hm i x y p q).2.2⟩)
    refine ⟨_,_,_,?_,a,b,.iface t (.map (r':=w.heap.size) (by simp [Ren.add]))⟩
    have hdef:∀ q:Nat,Extern.MapsClone.clone #[.iface t (.map (some q))]=(do
      let .map entries clock ← getObj q | stuck "maps.clone: a map expected"
      pure (.iface t (.map (some (← newObj (.map entries clock)))))):=fun _=>rfl
    rw [hdef]
    simp [getObj_run h2 (by intro _ _ _ hc;cases hc),run_newObj]
def opUnsafe (P:Program) (h:AH) (s d:TypeId) (v:Value):Option Value:=match v with
 | .pointer (some ⟨k,off,none⟩)=>match h.get k with
  | some (.cells c e (0,0),none)=>match P.underlying s,P.underlying d with
   | some (.pointer t),some .unsafePointer=>match P.info? t with
    | some i=>if off < c.size∧i.size ≠ 0 then some v else none
    | none=>none
   | some .unsafePointer,some (.pointer u)=>match P.info? u with
    | some i=>if i.size ≠ 0∧liesAt P P.depth e (c.size / P.cellsOf e) off u 1=true then some v else none
    | none=>none
   | _,_=>none
  | _=>none
 | _=>none
theorem opUnsafe_run {P:Program} {E:Ren} {h:AH} {w:World} (r:RW P E h w) {s d:TypeId} {x x' v:Value} (hh:opUnsafe P h s d x=some v) (hx:RV E x x') :
  ∃ v',(convert s d x').run P w=.ok v' w∧RV E v v':=by
 unfold opUnsafe at hh
 split at hh
 case h_2=>cases hh
 rename_i k off
 split at hh
 case h_2=>cases hh
 rename_i c e hg
 cases hx with
 | ptr hat =>
  rename_i b
  obtain ⟨n,o',h1,h2,h3,h4⟩:=r.live _ _ _ hg
  rw [hat] at h1;cases h1
  have hso:E.soft k=none:=by
   cases hs:E.soft k with
   | none=>rfl
   | some _=>rw [hs] at h4;cases h4
  rw [hso] at h3
  cases h3 with
  | soft hs=>cases hs
  | hard hs hra =>
   rename_i cw
   have hsh:w.shape? b=some (e,cw.size):=by simp [World.shape?,h2]
   split at hh
   ·rename_i t h5 h6
    split at hh
    case h_2=>cases hh
    rename_i i hi
    split at hh
    case isFalse=>cases hh
    rename_i hc
    cases hh
    refine ⟨_,?_,.ptr hat⟩
    have e1:(convert s d (.pointer (some ⟨b,off,none⟩))).run P w=(Conv.unsafePointer s d (.pointer (some ⟨b,off,none⟩))).run P w:=by
     unfold convert
     simp [run_underlying h5,run_underlying h6]
    rw [e1]
    have hlt:¬ cw.size ≤ off:=by rw [← hra.1];omega
    unfold Conv.unsafePointer
    simp [run_underlying h5,run_underlying h6,Conv.seenAt,viewAt,hsh,cellsIn,hlt,sizeOf,typeInfo,hi,hc.2]
   ·rename_i u h5 h6
    split at hh
    case h_2=>cases hh
    rename_i i hi
    split at hh
    case isFalse=>cases hh
    rename_i hc
    cases hh
    refine ⟨_,?_,.ptr hat⟩
    have e1:(convert s d (.pointer (some ⟨b,off,none⟩))).run P w=(Conv.unsafePointer s d (.pointer (some ⟨b,off,none⟩))).run P w:=by
     unfold convert
     simp [run_underlying h5,run_underlying h6]
    rw [e1]
    have hl:=hc.2
    rw [hra.1] at hl
    unfold Conv.unsafePointer
    simp [run_underlying h5,run_underlying h6,Conv.seenAt,viewAt,hsh,variablesAt,hl,sizeOf,typeInfo,hi,hc.1]
   ·cases hh
end Go.Ab
end
section
namespace Go.Ab
inductive Out where
 | val (v:Value) (h:AH)
 | unit (h:AH)
 | enter (f:FuncId) (args:Array Value) (h:AH)
def valH (h:AH) (v:Option Value):Option Out:=match v with | some v=>some (.val v h) | none=>none
def valP (v:Option (Value × AH)):Option Out:=match v with | some (v,h)=>some (.val v h) | none=>none
def listOf (ρ:Operand→Option Value):List Operand→Option (List Value)
 | []=>some []
 | x::l=>match ρ x,listOf ρ l with
  | some v,some vs=>some (v::vs)
  | _,_=>none
def partsOf (ρ:Operand→Option Value):List (Nat × Operand)→Option (List (Nat × Value))
 | []=>some []
 | (i,x)::l=>match ρ x,partsOf ρ l with
  | some v,some vs=>some ((i,v)::vs)
  | _,_=>none
def optOf (ρ:Operand→Option Value):Option Operand→Option (Option Value)
 | none=>some none
 | some x=>(ρ x).map some
def flatV (P:Program) (m:Sem Value):Option Value:=match flat P m with | some v=>if plain v then some v else none | none=>none
def isExt (fn:Func):Bool:=(fn.name == "maps.clone" || fn.name == "internal/abi.NoEscape") && (Extern.findNext fn).isNone
def extO (n:String) (args:List Value) (h:AH):Option (Value × AH):=match args with
 | [x]=>if n == "maps.clone" then opClone h x else if n == "internal/abi.NoEscape" then some (x,h) else none
 | _=>none
def enterOf (P:Program) (f:FuncId) (args:List Value) (h:AH):Option Out :=
 match P.funcs[f]? with
 | some fn=>if fn.name == "runtime.NumGoroutine" then none else if fn.body.isNone then
   (if isExt fn then valP (extO fn.name args h) else if args.all (plainN 12) then match flat P (callFunc f args.toArray) with
    | some (.value v)=>if plain v then some (.val v h) else none
    | _=>none
   else none)
  else some (.enter f args.toArray h)
 | none=>none
def methodOf (P:Program) (t:TypeId) (v:Value) (name:String):Option (FuncId × Value) :=
 match P.info? t with
 | some i=>match i.methods.find? (·.name == name) with
  | some m=>if m.path.isEmpty then match m.func with
   | some (f,true)=>match P.underlying t with
    | some (.pointer _)=>some (f,v)
    | _=>none
   | some (f,false)=>match P.underlying t with
    | some (.pointer _) | none=>none
    | some _=>some (f,v)
   | none=>none
   else none
  | none=>none
 | none=>none
def nilMeth (P:Program):Value→Bool
 | .func (.method n) f _=>match (f[0]?:Option Value) with
  | some (.iface t v)=>match P.info? t with
   | some i=>match i.methods.find? (·.name == n) with
    | some m=>m.path.isEmpty && match m.func with
     | some (_,true)=>true
     | some (_,false)=>match P.underlying t with
      | some (.pointer _)=>(match v with | .pointer (some _)=>true | _=>false)
      | some _=>true
      | none=>false
     | none=>false
    | none=>false
   | none=>false
  | _=>false
 | _=>false
def nilChecked:Value→Bool
 | .pointer (some _) | .iface _ _ | .func (.func _) _ _ | .func (.yield 1) _ _=>true
 | _=>false
def absCall (P:Program) (ρ:Operand→Option Value) (c:Call) (ty:TypeId) (h:AH):Option Out :=
 match listOf ρ c.args.toList with
 | none=>none
 | some args=>match c.callee with
  | .builtin .append=>match args with
   | [s,x]=>valP (opAppend P h c.argTypes s x)
   | _=>none
  | .builtin .copy=>match args with
   | [s,x]=>valP (opCopy P h c.argTypes s x)
   | _=>none
  | .builtin .len=>match args,c.argTypes[0]? with
   | [x],some t=>valH h (opLen P h t x)
   | _,_=>none
  | .builtin .delete=>match args,c.argTypes[0]? with
   | [m,k],some t=>match opDelete P h t m k with
    | some h'=>some (.val (.tuple #[]) h')
    | none=>none
   | _,_=>none
  | .builtin .min=>if args.all (plainN 12) then valH h (flatV P (Builtin.min_ c.argTypes ty args.toArray)) else none
  | .builtin .max=>if args.all (plainN 12) then valH h (flatV P (Builtin.max_ c.argTypes ty args.toArray)) else none
  | .builtin .real=>if args.all (plainN 12) then valH h (flatV P (Builtin.real_ c.argTypes ty args.toArray)) else none
  | .builtin .imag=>if args.all (plainN 12) then valH h (flatV P (Builtin.imag_ c.argTypes ty args.toArray)) else none
  | .builtin .complex=>if args.all (plainN 12) then valH h (flatV P (Builtin.complex_ c.argTypes ty args.toArray)) else none
  | .builtin .unsafeSliceData=>match args with
   | [x]=>valH h (opSliceData x)
   | _=>none
  | .builtin .unsafeString=>match args,c.argTypes.toList with
   | [x,y],[t,_]=>valP (opUString P h t x y)
   | _,_=>none
  | .builtin .clear=>match args,c.argTypes[0]? with
   | [x],some t=>match opClear P h t x with
    | some h'=>some (.val (.tuple #[]) h')
    | none=>none
   | _,_=>none
  | .builtin _=>none
  | .value f=>match ρ f with
   | some (.func (.func g) first captured)=>enterOf P g (first.toList++args++captured.toList) h
   | _=>none
  | .invoke recv name=>match ρ recv with
   | some (.iface t v)=>match methodOf P t v name with
    | some (g,r)=>enterOf P g (r::args) h
    | none=>none
   | _=>none
def absConvert (P:Program) (src dst:TypeId) (x:Value) (h:AH):Option Out :=
 match P.underlying src,P.underlying dst,x with
 | some .string,some (.slice e),.string s=>match P.underlying e with
  | some (.int .u8)=>let (v,h'):=opS2B h e s;some (.val v h')
  | _=>none
 | some (.slice e),some .string,.slice a l c=>match P.underlying e with
  | some (.int .u8)=>valH h (opB2S h (.slice a l c))
  | _=>none
 | some (.slice e),some .string,.func (.yield 0) z l=>match P.underlying e with
  | some (.int .u8)=>valH h (opB2S h (.func (.yield 0) z l))
  | _=>none
 | _,_,_=>if plain x then valH h (flatV P (convert src dst x)) else valH h (opUnsafe P h src dst x)
def absBin (P:Program) (op:BinOp) (t:TypeId) (x y:Operand) (a b:Value) (h:AH):Option Out :=
 if plain a && plain b then valH h (flatV P (do eqGuard op t x y a b;binOp op t a b))
 else match a,b with
  | .agg _,.agg _=>none
  | .tuple _,_=>none
  | _,_=>match op with
   | .eql=>match opEqPtr P h t a b with
    | some c=>some (.val (.bool c) h)
    | none=>none
   | .neq=>match opEqPtr P h t a b with
    | some c=>some (.val (.bool (!c)) h)
    | none=>none
   | _=>none
def absOp (P:Program) (ρ:Operand→Option Value) (o:Oper) (h:AH):Option Out :=
 match o.op with
 | .move x | .assign x=>valH h (ρ x)
 | .pick c a b=>match ρ c with
  | some (.bool t)=>valH h (if t then ρ a else ρ b)
  | _=>none
 | .alloc e=>valP (opAlloc P h e)
 | .box e x=>match ρ x with
  | some v=>let (a,h'):=opNew h e v.cells;some (.val a h')
  | none=>none
 | .build t parts=>match partsOf ρ parts.toList with
  | some l=>valH h (opBuild P t l)
  | none=>none
 | .buildSlice t n parts=>match partsOf ρ parts.toList with
  | some l=>valP (opBuildSlice P h t n l)
  | none=>none
 | .load t a=>match ρ a with
  | some v=>valH h (opLoad P h t v)
  | none=>none
 | .store t a x=>match ρ a,ρ x with
  | some a,some v=>match opStore P h t a v with
   | some h'=>some (.unit h')
   | none=>none
  | _,_=>none
 | .nilCheck x=>match ρ x with
  | some v=>if nilChecked v || nilMeth P v then some (.val v h) else none
  | none=>none
 | .binOp op t x y _=>match ρ x,ρ y with
  | some a,some b=>absBin P op t x y a b h
  | _,_=>none
 | .unOp op _ x=>match ρ x with
  | some a=>if plain a then valH h (flatV P (Op.unary op a)) else none
  | none=>none
 | .convert s d x=>match ρ x with
  | some a=>absConvert P s d a h
  | none=>none
 | .makeInterface t x=>match ρ x with
  | some a=>valH h (opMakeInterface P t a)
  | none=>none
 | .makeFunc (.func f) first captured=>match listOf ρ first.toList,listOf ρ captured.toList with
  | some l,some m=>some (.val (.func (.func f) l.toArray m.toArray) h)
  | _,_=>none
 | .makeFunc (.method f) first captured=>match listOf ρ first.toList,listOf ρ captured.toList with
  | some l,some m=>some (.val (.func (.method f) l.toArray m.toArray) h)
  | _,_=>none
 | .makeSlice t l c=>match ρ l,ρ c with
  | some a,some b=>valP (opMakeSlice P h t a b)
  | _,_=>none
 | .slice t x lo hi none=>match ρ x,optOf ρ lo,optOf ρ hi with
  | some v,some l,some g=>match v with
   | .string s=>if (l.all plain && g.all plain) then valH h (flatV P (Instr.sliceAt t (.string s) l g none)) else none
   | _=>valH h (opSlice P h t v l g)
  | _,_,_=>none
 | .slice t x lo hi (some m)=>match ρ x,optOf ρ lo,optOf ρ hi,ρ m with
  | some v,some l,some g,some m=>valH h (opSlice3 P h t v l g (some m))
  | _,_,_,_=>none
 | .fieldAddr s x f=>match ρ x with
  | some a=>valH h (opFieldAddr P s a f)
  | none=>none
 | .field s x f=>match ρ x with
  | some a=>valH h (opField P s a f)
  | none=>none
 | .indexAddr t x i=>match ρ x,ρ i with
  | some a,some b=>valH h (opIndexAddr P t a b)
  | _,_=>none
 | .index t x i=>match ρ x,ρ i with
  | some a,some b=>valH h (opIndex P t a b)
  | _,_=>none
 | .typeAssert x st t ok=>match ρ x with
  | some a=>valH h (opTypeAssert P a t ok)
  | none=>none
 | .extract t i=>match ρ t with
  | some a=>valH h (opExtract a i)
  | none=>none
 | .call c=>absCall P ρ c o.type h
 | .makeMap t none=>let (v,h'):=opMakeMap h;some (.val v h')
 | .lookup t x k ok=>match ρ x,ρ k with
  | some a,some b=>valH h (opLookup P h t a b ok)
  | _,_=>none
 | .mapUpdate t m k x | .insert t m k x=>match ρ m,ρ k,ρ x with
  | some a,some b,some c=>match opMapUpdate P h t a b c with
   | some h'=>some (.unit h')
   | none=>none
  | _,_,_=>none
 | .mapEntry t m k=>match ρ m,ρ k with
  | some a,some b=>valP (opMapEntry P h t a b)
  | _,_=>none
 | .entryStore _ m s x=>match ρ m,ρ s,ρ x with
  | some a,some b,some c=>match opEntryStore h a b c with
   | some h'=>some (.unit h')
   | none=>none
  | _,_,_=>none
 | .range t x=>match ρ x with
  | some a=>valP (opRange P h t a)
  | none=>none
 | .next it s=>match ρ it with
  | some a=>valP (opNext P h a s)
  | none=>none
 | .entry it=>match ρ it with
  | some a=>valH h (opEntry h a)
  | none=>none
 | _=>none
structure Rn where
 loop:Option Nat:=none
 dfs:List Value:=[]
structure AA where
 tm:T Value
 n:Nat
 rnd:Rn:={}
def AA.get (a:AA) (t:Nat):Option Value:=a.tm.get (t + 1)
def AA.put (a:AA) (d:Option Tmp) (v:Value):AA :=
 match d with
 | some d=>if d < a.n then ⟨a.tm.put (d + 1) (d + 1) (some v),a.n,a.rnd⟩ else a
 | none=>a
def AA.opnd (P:Program) (a:AA):Operand→Option Value
 | .tmp t=>a.get t
 | .const v=>if plain v then some v else none
 | .global g=>if g < P.globals.size then some (.pointer (some ⟨g,0,none⟩)) else none
 | .func f=>some (.func (.func f) #[] #[])
def AA.yielded (ops:Array Oper) (a:AA) (j:Nat):Option Bool :=
 match (ops[j]?).bind (·.dst) with
 | some d=>if d < a.n then match a.get d with
  | some (.bool b)=>some b
  | _=>none
  else none
 | none=>none
def AA.knows (ops:Array Oper) (a:AA) (o:Oper):Bool :=
 match o.guard with
 | none=>true
 | some (j,_)=>match (ops[j]?).bind (·.dst) with
  | some d=>if d < a.n then (a.get d).isSome else true
  | none=>true
def AA.keep (a:AA):List Nat→AA
 | []=>⟨.leaf,a.n,a.rnd⟩
 | t::l=>match a.get t with
  | some v=>⟨(a.keep l).tm.put (t + 1) (t + 1) (some v),a.n,a.rnd⟩
  | none=>a.keep l
abbrev CallF:=FuncId→Array Value→AH→Option (Value × Bool × AH)
inductive AX where
 | normal
 | exit (id:Nat)
 | goto (l:Nat)
 | ret
def AX.toExit:AX→Exit
 | .normal=>.normal
 | .exit i=>.exit i
 | .goto l=>.goto l
 | .ret=>.ret
def resultsOf (P:Program) (a:AA) (h:AH):List ResultVar→Option (List Value)
 | []=>some []
 | .tmp t::l=>match a.get t,resultsOf P a h l with
  | some v,some vs=>some (v::vs)
  | _,_=>none
 | .cell c t::l=>match (a.get c).bind (opLoad P h t),resultsOf P a h l with
  | some v,some vs=>some (v::vs)
  | _,_=>none
def oneOf:List Value→Value
 | [v]=>v
 | vs=>.tuple vs.toArray
def tmsOf:Nat→List Value→T Value→T Value
 | _,[],t=>t
 | k,v::l,t=>tmsOf (k + 1) l (t.put (k + 1) (k + 1) (some v))
end Go.Ab
end
section
namespace Go.Ab
def OutOk (P:Program) (E:Ren) (w:World) (r:Result Next):Out→Prop
 | .val v h=>∃ E' v' w',r=.ok (.value v') w'∧RW P E' h w'∧Ext E w E' w'∧RV E' v v'
 | .unit h=>∃ E' w',r=.ok .skip w'∧RW P E' h w'∧Ext E w E' w'
 | .enter f args h=>∃ E' args' w',r=.ok (.enter f args') w'∧RW P E' h w'∧Ext E w E' w'∧RA E' args args'
theorem val_run {P:Program} {s:Sem Value} {w w':World} {v:Value} (h:s.run P w=.ok v w') :
  (do pure (.value (← s)):Sem Next).run P w=.ok (.value v) w':=by simp [h]
theorem unit_run {P:Program} {s:Sem Unit} {w w':World} (h:s.run P w=.ok () w') :
  (do s;pure .skip:Sem Next).run P w=.ok .skip w':=by simp [h]
section
variable {P:Program} {E:Ren} {h:AH} {w:World}
theorem outVal (r:RW P E h w) {m:Sem Next} {v:Value} (hh:∃ v',m.run P w=.ok (.value v') w∧RV E v v'):OutOk P E w (m.run P w) (.val v h):=by
 obtain ⟨v',h1,h2⟩:=hh
 exact ⟨E,v',w,h1,r,.refl E w,h2⟩
theorem outVal' (r:RW P E h w) {s:Sem Value} {v:Value} (hh:∃ v',s.run P w=.ok v' w∧RV E v v') :
  OutOk P E w ((do pure (.value (← s)):Sem Next).run P w) (.val v h):=by
 obtain ⟨v',h1,h2⟩:=hh
 exact ⟨E,v',w,val_run h1,r,.refl E w,h2⟩
theorem outNew {s:Sem Value} {v:Value} {h':AH} (hh:∃ E' v' w',s.run P w=.ok v' w'∧RW P E' h' w'∧Ext E w E' w'∧RV E' v v') :
  OutOk P E w ((do pure (.value (← s)):Sem Next).run P w) (.val v h'):=by
 obtain ⟨E',v',w',h1,h2,h3,h4⟩:=hh
 exact ⟨E',v',w',val_run h1,h2,h3,h4⟩
theorem valH_eq {v:Option Value} {o:Out} (hh:valH h v=some o):∃ u,v=some u∧o=.val u h:=by
 unfold valH at hh
 split at hh
 ·cases hh;exact ⟨_,rfl,rfl⟩
 ·cases hh
theorem valP_eq {v:Option (Value × AH)} {o:Out} (hh:valP v=some o):∃ u h',v=some (u,h')∧o=.val u h':=by
 unfold valP at hh
 split at hh
 ·cases hh;exact ⟨_,_,rfl,rfl⟩
 ·cases hh
theorem flatV_run {m:Sem Value} {v:Value} (hh:flatV P m=some v) (w:World):m.run P w=.ok v w∧∀ E:Ren,RV E v v:=by
 unfold flatV at hh
 split at hh
 ·rename_i u hu
  split at hh
  ·rename_i hp
   cases hh
   exact ⟨flat_run w hu,fun E=>RV.of_plain hp⟩
  ·cases hh
 ·cases hh
def OpsOk (E:Ren) (ρ:Operand→Option Value) (ρ':Operand→Value):Prop:=∀ x v,ρ x=some v→RV E v (ρ' x)
theorem listOf_ok {ρ:Operand→Option Value} {ρ':Operand→Value} (hr:OpsOk E ρ ρ'):∀ {l:List Operand} {vs:List Value},listOf ρ l=some vs→RA E vs.toArray (l.map ρ').toArray:=by
 intro l
 induction l with
 | nil=>intro vs h;cases h;exact .empty
 | cons x l ih =>
  intro vs h
  unfold listOf at h
  split at h
  ·rename_i v us hx hl
   cases h
   have h1:=(RA.one (hr x v hx)).append (ih hl)
   simpa using h1
  ·cases h
theorem partsOf_ok {ρ:Operand→Option Value} {ρ':Operand→Value} (hr:OpsOk E ρ ρ'):∀ {l:List (Nat × Operand)} {vs:List (Nat × Value)},partsOf ρ l=some vs→Parts E vs (l.map fun (i,x)=>(i,ρ' x)):=by
 intro l
 induction l with
 | nil=>intro vs h;cases h;exact .nil
 | cons x l ih =>
  intro vs h
  obtain ⟨i,x⟩:=x
  unfold partsOf at h
  split at h
  ·rename_i v us hx hl
   cases h
   exact .cons (hr x v hx) (ih hl)
  ·cases h
theorem plain_eq {ρ:Operand→Option Value} {ρ':Operand→Value} (hr:OpsOk E ρ ρ') {x:Operand} {v:Value} (hx:ρ x=some v) (hp:plain v=true):ρ' x=v :=
 RV.eq_of_plain hp (hr x v hx)
theorem optOf_ok {ρ:Operand→Option Value} {ρ':Operand→Value} (hr:OpsOk E ρ ρ') {x:Option Operand} {l:Option Value} (hx:optOf ρ x=some l) :
  (l=none∧x.map ρ' = none) ∨ ∃ v v',l=some v∧x.map ρ' = some v'∧RV E v v':=by
 unfold optOf at hx
 split at hx
 ·cases hx;exact .inl ⟨rfl,rfl⟩
 ·rename_i y
  rw [Option.map_eq_some_iff] at hx
  obtain ⟨v,h1,rfl⟩:=hx
  exact .inr ⟨v,_,rfl,rfl,hr y v h1⟩
theorem optPlain {ρ:Operand→Option Value} {ρ':Operand→Value} (hr:OpsOk E ρ ρ') {x:Option Operand} {l:Option Value} (hx:optOf ρ x=some l) (hp:l.all plain=true):x.map ρ' = l:=by
 rcases optOf_ok hr hx with ⟨rfl,h2⟩ | ⟨v,v',rfl,h2,h3⟩
 ·exact h2
 ·rw [h2,RV.eq_of_plain (by simpa using hp) h3]
theorem optBound {ρ:Operand→Option Value} {ρ':Operand→Value} (hr:OpsOk E ρ ρ') {x:Option Operand} {l:Option Value} (hx:optOf ρ x=some l) (hb:∀ v,l=some v→∃ k n,v=.int k n):x.map ρ' = l:=by
 rcases optOf_ok hr hx with ⟨rfl,h2⟩ | ⟨v,v',rfl,h2,h3⟩
 ·exact h2
 ·obtain ⟨k,n,rfl⟩:=hb v rfl
  cases h3
  exact h2
theorem bounds_ints {len cap:Nat} {lo hi:Option Value} {p:Nat × Nat} (hb:bounds? len cap lo hi=some p):(∀ v,lo=some v→∃ k n,v=.int k n)∧(∀ v,hi=some v→∃ k n,v=.int k n):=by
 have key:∀ {v y n},bound? v y=some n→∃ k i,v=.int k i:=by
  intro v y n h
  unfold bound? at h
  split at h
  ·exact ⟨_,_,rfl⟩
  ·cases h
 unfold bounds? at hb
 split at hb
 ·rename_i g hg
  split at hb
  ·rename_i l hl
   constructor
   ·rintro v rfl;exact key hl
   ·rintro v rfl;exact key hg
  ·cases hb
 ·cases hb
theorem opSlice_bounds {t:TypeId} {x:Value} {lo hi:Option Value} {v:Value} (hv:opSlice P h t x lo hi=some v):(∀ v,lo=some v→∃ k n,v=.int k n)∧(∀ v,hi=some v→∃ k n,v=.int k n):=by
 unfold opSlice at hv
 split at hv
 ·split at hv
  ·rename_i hb;exact bounds_ints hb
  ·cases hv
 ·split at hv
  ·rename_i hb;exact bounds_ints hb
  ·cases hv
 ·split at hv
  ·rename_i hb _;exact bounds_ints hb
  ·cases hv
 ·split at hv
  ·rename_i hb;exact bounds_ints hb
  ·cases hv
 ·cases hv
theorem allPlain {l:List Value} {l':Array Value} (hp:l.all (plainN 12)=true) (hr:RA E l.toArray l'):l' = l.toArray:=by
 have:=RV.eq_of_plain (n:=13) (v:=.tuple l.toArray) (v':=.tuple l') (E:=E) (by simpa [plainN] using hp) (.tuple hr.1 hr.2)
 cases this;rfl
theorem one_of {a:Value} {l':Array Value} (hr:RA E [a].toArray l'):∃ a',l' = #[a']∧RV E a a':=by
 have hs:l'.size=1:=hr.1.symm
 obtain ⟨a',h1,h2⟩:=hr.get (i:=0) (v:=a) (by simp)
 refine ⟨a',?_,h2⟩
 apply Array.ext_getElem?
 intro i
 match i with
 | 0=>rw [h1];rfl
 | n + 1=>rw [Array.getElem?_eq_none (by omega),Array.getElem?_eq_none (by simp)]
theorem find_clone {fn:Func} (h:fn.name = "maps.clone"):Extern.find fn=some Extern.MapsClone.clone:=by
 unfold Extern.find
 rw [h]
 rfl
theorem find_noEscape {fn:Func} (h:fn.name = "internal/abi.NoEscape"):Extern.find fn=some Extern.AbiNoEscape.same:=by
 unfold Extern.find
 rw [h]
 rfl
theorem extO_ok (r:RW P E h w) {f:FuncId} {fn:Func} (hf:P.funcs[f]?=some fn) (hn:¬ (fn.name == "runtime.NumGoroutine")=true) (hb:fn.body.isNone=true) (hx:isExt fn=true) {args:List Value} {args':Array Value} {v:Value} {h':AH} (hh:extO fn.name args h=some (v,h')) (ha:RA E args.toArray args') :
  OutOk P E w ((callFunc f args').run P w) (.val v h'):=by
 have hnx:Extern.findNext fn=none:=by
  unfold isExt at hx
  rw [Bool.and_eq_true] at hx
  exact Option.isNone_iff_eq_none.1 hx.2
 unfold extO at hh
 split at hh
 case h_2=>cases hh
 rename_i x
 obtain ⟨x',rfl,hx'⟩:=one_of ha
 have hrun:∀ (e:Array Value→Sem Value),Extern.find fn=some e→∀ v w',(e #[x']).run P w=.ok v w'→(callFunc f #[x']).run P w=.ok (.value v) w':=by
  intro e h2 v w' h3
  unfold callFunc
  simp only [Sem.run_bind,run_program,Result.andThen_ok,hf]
  rw [if_neg hn,if_pos hb]
  simp [hnx,h2,h3]
 split at hh
 ·rename_i hc
  obtain ⟨E',v',w',h1,h2,h3,h4⟩:=opClone_run r hh hx'
  exact ⟨E',v',w',hrun _ (find_clone (by simpa using hc)) _ _ h1,h2,h3,h4⟩
 ·split at hh
  ·rename_i hc
   cases hh
   exact ⟨E,x',w,hrun _ (find_noEscape (by simpa using hc)) _ _ rfl,r,.refl E w,hx'⟩
  ·cases hh
theorem enterOf_ok (r:RW P E h w) {f:FuncId} {args:List Value} {args':Array Value} {o:Out} (hh:enterOf P f args h=some o) (ha:RA E args.toArray args') :
  OutOk P E w ((callFunc f args').run P w) o:=by
 unfold enterOf at hh
 split at hh
 ·rename_i fn hf
  split at hh
  ·cases hh
  ·rename_i hn
   split at hh
   ·rename_i hb
    split at hh
    ·rename_i hx
     obtain ⟨u,h',h1,rfl⟩:=valP_eq hh
     exact extO_ok r hf hn hb hx h1 ha
    split at hh
    ·rename_i hp
     split at hh
     ·rename_i v hv
      split at hh
      ·rename_i hpv
       cases hh
       rw [allPlain hp ha]
       exact ⟨E,v,w,flat_run w hv,r,.refl E w,RV.of_plain hpv⟩
      ·cases hh
     ·cases hh
    ·cases hh
   ·rename_i hb
    cases hh
    refine ⟨E,args',w,?_,r,.refl E w,ha⟩
    unfold callFunc
    simp only [Sem.run_bind,run_program,Result.andThen_ok,hf]
    rw [if_neg hn,if_neg hb]
    rfl
 ·cases hh
end
end Go.Ab
end
section
namespace Go.Ab
section
variable {P:Program} {E:Ren} {h:AH} {w:World} {ρ:Operand→Option Value} {ρ':Operand→Value}
theorem two_of {a b:Value} {l':Array Value} (hr:RA E [a,b].toArray l'):∃ a' b',l' = #[a',b']∧RV E a a'∧RV E b b':=by
 have hs:l'.size=2:=hr.1.symm
 obtain ⟨a',h1,h2⟩:=hr.get (i:=0) (v:=a) (by simp)
 obtain ⟨b',h3,h4⟩:=hr.get (i:=1) (v:=b) (by simp)
 refine ⟨a',b',?_,h2,h4⟩
 apply Array.ext_getElem?
 intro i
 match i with
 | 0=>rw [h1];rfl
 | 1=>rw [h3];rfl
 | n + 2=>rw [Array.getElem?_eq_none (by omega),Array.getElem?_eq_none (by simp)]
theorem methodOf_run {t:TypeId} {v v':Value} {name:String} {g:FuncId} {u:Value} (hh:methodOf P t v name=some (g,u)) (hr:RV E v v') (n:Nat) :
  ∃ u',(method (n + 1) t v' name).run P w=.ok (g,u') w∧RV E u u':=by
 unfold methodOf at hh
 split at hh
 case h_2=>cases hh
 rename_i i hi
 split at hh
 case h_2=>cases hh
 rename_i m hm
 split at hh
 case isFalse=>cases hh
 rename_i hp
 have hp':m.path.toList=[]:=by simpa using hp
 split at hh
 ·rename_i f hf
  split at hh
  ·rename_i el e
   cases hh
   refine ⟨v',?_,hr⟩
   simp [method,info_run hi,hm,hp',follow,hf,receiverAt,und_run e,Place.get]
  ·cases hh
 ·rename_i f hf
  split at hh
  ·cases hh
  ·cases hh
  ·rename_i d hd e
   cases hh
   refine ⟨v',?_,hr⟩
   simp only [method,info_run hi,hm,hp',follow,hf,receiverAt,und_run e,Place.get,Sem.run_bind,Result.andThen_ok,Sem.run_pure]
   all_goals (cases d <;> first | (exact absurd rfl (hd _)) | rfl)
 ·cases hh
theorem absCall_ok (r:RW P E h w) (hr:OpsOk E ρ ρ') {c:Call} {ty:TypeId} {o:Out} (hh:absCall P ρ c ty h=some o) :
  OutOk P E w ((do let d ← resolve ρ' c ty;invoke d.target d.args:Sem Next).run P w) o:=by
 unfold absCall at hh
 split at hh
 ·cases hh
 rename_i args hargs
 have ha:RA E args.toArray (c.args.map ρ'):=by
  have:=listOf_ok hr hargs
  rwa [show (c.args.toList.map ρ').toArray=c.args.map ρ' by rw [← Array.toList_map,Array.toArray_toList]] at this
 have hb:∀ b,c.callee=.builtin b→∃ cs,(do let d ← resolve ρ' c ty;invoke d.target d.args:Sem Next).run P w=(builtin b c.argTypes ty cs (c.args.map ρ')).run P w:=by
  intro b e
  simp only [resolve,e,Sem.run_bind,Sem.run_pure,Result.andThen_ok,invoke]
  exact ⟨_,rfl⟩
 split at hh
 ·rename_i e
  obtain ⟨cs,hcs⟩:=hb _ e
  rw [hcs]
  split at hh
  ·obtain ⟨u,h',h1,rfl⟩:=valP_eq hh
   obtain ⟨s',x',e2,hs,hx⟩:=two_of ha
   rw [e2]
   exact outNew (opAppend_run r h1 hs hx)
  ·cases hh
 ·rename_i e
  obtain ⟨cs,hcs⟩:=hb _ e
  rw [hcs]
  split at hh
  ·obtain ⟨u,h',h1,rfl⟩:=valP_eq hh
   obtain ⟨s',x',e2,hs,hx⟩:=two_of ha
   rw [e2]
   exact outNew (opCopy_run r h1 hs hx)
  ·cases hh
 ·rename_i e
  obtain ⟨cs,hcs⟩:=hb _ e
  rw [hcs]
  split at hh
  ·rename_i x t h0
   obtain ⟨u,h1,rfl⟩:=valH_eq hh
   obtain ⟨x',e2,hx⟩:=one_of ha
   rw [e2]
   obtain ⟨h2,h3⟩:=opLen_run (ty:=ty) r h0 h1 hx
   exact outVal' r ⟨_,h2,h3⟩
  ·cases hh
 ·rename_i e
  obtain ⟨cs,hcs⟩:=hb _ e
  rw [hcs]
  split at hh
  ·rename_i m k t h0
   split at hh
   ·rename_i h' hd
    cases hh
    obtain ⟨m',k',e2,hm,hk⟩:=two_of ha
    rw [e2]
    obtain ⟨w',g1,g2,g3⟩:=opDelete_run (ty:=ty) r h0 hd hm hk
    exact outNew ⟨E,_,w',g1,g2,g3,.tuple rfl fun i v v' h _=>by simp at h⟩
   ·cases hh
  ·cases hh
 ·rename_i e
  obtain ⟨cs,hcs⟩:=hb _ e
  rw [hcs]
  split at hh
  ·rename_i hp
   obtain ⟨u,h1,rfl⟩:=valH_eq hh
   rw [allPlain hp ha]
   obtain ⟨h2,h3⟩:=flatV_run h1 w
   exact outVal' r ⟨_,h2,h3 E⟩
  ·cases hh
 ·rename_i e
  obtain ⟨cs,hcs⟩:=hb _ e
  rw [hcs]
  split at hh
  ·rename_i hp
   obtain ⟨u,h1,rfl⟩:=valH_eq hh
   rw [allPlain hp ha]
   obtain ⟨h2,h3⟩:=flatV_run h1 w
   exact outVal' r ⟨_,h2,h3 E⟩
  ·cases hh
 ·rename_i e
  obtain ⟨cs,hcs⟩:=hb _ e
  rw [hcs]
  split at hh
  ·rename_i hp
   obtain ⟨u,h1,rfl⟩:=valH_eq hh
   rw [allPlain hp ha]
   obtain ⟨h2,h3⟩:=flatV_run h1 w
   exact outVal' r ⟨_,h2,h3 E⟩
  ·cases hh
 ·rename_i e
  obtain ⟨cs,hcs⟩:=hb _ e
  rw [hcs]
  split at hh
  ·rename_i hp
   obtain ⟨u,h1,rfl⟩:=valH_eq hh
   rw [allPlain hp ha]
   obtain ⟨h2,h3⟩:=flatV_run h1 w
   exact outVal' r ⟨_,h2,h3 E⟩
  ·cases hh
 ·rename_i e
  obtain ⟨cs,hcs⟩:=hb _ e
  rw [hcs]
  split at hh
  ·rename_i hp
   obtain ⟨u,h1,rfl⟩:=valH_eq hh
   rw [allPlain hp ha]
   obtain ⟨h2,h3⟩:=flatV_run h1 w
   exact outVal' r ⟨_,h2,h3 E⟩
  ·cases hh
 ·rename_i e
  obtain ⟨cs,hcs⟩:=hb _ e
  rw [hcs]
  split at hh
  ·rename_i x
   obtain ⟨u,h1,rfl⟩:=valH_eq hh
   obtain ⟨x',e2,hx⟩:=one_of ha
   rw [e2]
   exact outVal' r (opSliceData_run _ _ h1 hx)
  ·cases hh
 ·rename_i e
  obtain ⟨cs,hcs⟩:=hb _ e
  rw [hcs]
  split at hh
  ·rename_i x y t t2 hts
   obtain ⟨u,h',h1,rfl⟩:=valP_eq hh
   obtain ⟨x',y',e2,hx,hy⟩:=two_of ha
   rw [e2]
   have:c.argTypes = #[t,t2]:=Array.ext' (by rw [hts])
   rw [this]
   exact outNew (opUString_run r h1 hx hy)
  ·cases hh
 ·rename_i e
  obtain ⟨cs,hcs⟩:=hb _ e
  rw [hcs]
  split at hh
  ·rename_i m t h0
   split at hh
   ·rename_i h' hd
    cases hh
    obtain ⟨m',e2,hm⟩:=one_of ha
    rw [e2]
    obtain ⟨w',g1,g2,g3⟩:=opClear_run (ty:=ty) r h0 hd hm
    exact outNew ⟨E,_,w',g1,g2,g3,.tuple rfl fun i v v' h _=>by simp at h⟩
   ·cases hh
  ·cases hh
 ·cases hh
 ·rename_i f e
  split at hh
  ·rename_i g first captured hf
   have hv:=hr f _ hf
   generalize hρ:ρ' f=fv at hv
   cases hv with
   | func _ hf1 hc1 hf2 hc2 =>
    rename_i f' c'
    have:(do let d ← resolve ρ' c ty;invoke d.target d.args:Sem Next).run P w=(callFunc g (f'++c.args.map ρ'++c')).run P w:=by
     simp only [resolve,e,hρ,Deferred.ofValue,Sem.run_bind,Sem.run_pure,Result.andThen_ok,invoke]
    rw [this]
    refine enterOf_ok r hh ?_
    have e3:(first.toList++args++captured.toList).toArray=first++args.toArray++captured:=Array.ext' (by simp)
    rw [e3]
    exact (RA.append (RA.append (⟨hf1,hf2⟩:RA E first f') ha) (⟨hc1,hc2⟩:RA E captured c'))
  ·cases hh
 ·rename_i recv name e
  split at hh
  ·rename_i t v hf
   split at hh
   ·rename_i g u hm
    have hv:=hr recv _ hf
    generalize hρ:ρ' recv=fv at hv
    cases hv with
    | iface _ hv =>
     rename_i v'
     obtain ⟨u',h1,h2⟩:=methodOf_run (w:=w) hm hv (P.types.size + Made.depth - 1)
     have hpos:P.types.size + Made.depth - 1 + 1=P.types.size + Made.depth:=by
      have:0 < Made.depth:=by decide
      omega
     rw [hpos] at h1
     have:(do let d ← resolve ρ' c ty;invoke d.target d.args:Sem Next).run P w=(callFunc g (#[u']++c.args.map ρ')).run P w:=by
      simp only [resolve,e,hρ,Sem.run_bind,Sem.run_pure,Result.andThen_ok,invoke]
      have e0:(#[Value.iface t v']++c.args.map ρ')[0]?=some (.iface t v'):=by
       rw [Array.getElem?_append_left (Nat.zero_lt_one)];rfl
      have e1:(#[Value.iface t v']++c.args.map ρ').extract 1 (#[Value.iface t v']++c.args.map ρ').size=c.args.map ρ':=by
       apply Array.ext'
       simp
       exact List.take_of_length_le (by simp)
      rw [e0]
      simp only [Sem.run_bind,Sem.run_pure,Result.andThen_ok,callMethod,run_program,h1,e1]
     rw [this]
     refine enterOf_ok r hh ?_
     have:=(RA.one h2).append ha
     simpa using this
   ·cases hh
  ·cases hh
theorem absConvert_ok (r:RW P E h w) {s d:TypeId} {x x':Value} {o:Out} (hh:absConvert P s d x h=some o) (hx:RV E x x') :
  OutOk P E w ((do pure (.value (← convert s d x')):Sem Next).run P w) o:=by
 unfold absConvert at hh
 split at hh
 ·rename_i e b h1 h2
  split at hh
  ·rename_i h3
   cases hh
   cases hx
   have:(convert s d (.string b)).run P w=(Conv.stringToBytes e b).run P w:=by
    simp only [convert,Sem.run_bind,und_run h1,und_run h2,Result.andThen_ok,und_run h3]
   obtain ⟨E',v',w',g1,g2⟩:=opS2B_run r e b
   exact outNew ⟨E',v',w',this.trans g1,g2⟩
  ·cases hh
 ·rename_i e a l c h1 h2
  split at hh
  ·rename_i h3
   obtain ⟨u,h4,rfl⟩:=valH_eq hh
   obtain ⟨g1,g2⟩:=opB2S_run r h4 hx
   have:(convert s d x').run P w=(Conv.bytesToString x').run P w:=by
    cases hx <;> simp [convert,und_run h1,und_run h2,und_run h3]
   exact outVal' r ⟨_,this.trans g1,g2⟩
  ·cases hh
 ·rename_i e z l h1 h2
  split at hh
  ·rename_i h3
   obtain ⟨u,h4,rfl⟩:=valH_eq hh
   obtain ⟨g1,g2⟩:=opB2S_run r h4 hx
   have:(convert s d x').run P w=(Conv.bytesToString x').run P w:=by
    rcases vs_inv hx with ⟨rfl,a',cap',rfl⟩ | ⟨b',off,cap,s,c,rfl,h1',h2',h3',h4',h5',h6'⟩ <;> simp [convert,und_run h1,und_run h2,und_run h3]
   exact outVal' r ⟨_,this.trans g1,g2⟩
  ·cases hh
 ·split at hh
  ·rename_i hp
   obtain ⟨u,h4,rfl⟩:=valH_eq hh
   rw [RV.eq_of_plain hp hx]
   obtain ⟨g1,g2⟩:=flatV_run h4 w
   exact outVal' r ⟨_,g1,g2 E⟩
  ·obtain ⟨u,h4,rfl⟩:=valH_eq hh
   exact outVal' r (opUnsafe_run r h4 hx)
end
end Go.Ab
end
