import Derived.Ground.PaProg
import Derived.Ground.SlgfProg
import Derived.KernelRfl
import Derived.Shelf.LaysM
import Derived.Shelf.Path.Small
import Derived.Shelf.Slices.In.SortNone
import Derived.Shelf.SlicesE.IndexFunc
import Derived.Shelf.Small.Bits
import Derived.Shelf.Small.Wraps
import Derived.Shelf.Sort.Plain
import Derived.Shelf.Strconv.Itoa0
import Derived.Shelf.Strings.Count
import Derived.Shelf.Strings.Explode
import Derived.Shelf.Strings.LastIndex
import Derived.Shelf.Strings.Prefix
import Derived.Shelf.Strings.RuneCount
import Derived.Shelf.Strings.Search1
import Derived.Shelf.Strings.Search2
import Derived.Shelf.Strings.Search3
import Derived.Shelf.Strings.Shaped
import Derived.Shelf.Strings.Split
import Derived.Shelf.Strings.SplitShaped
import Derived.Shelf.Unicode.Decode
import Derived.Shelf.Unicode.DecodeAny
import Derived.Shelf.Unicode.DecodeSlow
import Derived.Shelf.Utf8.RuneCount
import Derived.Test.YtgdnfoijhdpppaaDoorProg
import Derived.Test.YtgdnfoijhdpppaaDoorZ9
import Derived.Test.YtgdnfoijhdpppaaDoorZ18
import Derived.Test.YtgdnfoijhdpppaaDoorZ19
import Derived.Test.YtgdnfoijhdpppaaDoorZ20
set_option linter.unusedVariables false
set_option linter.unusedSimpArgs false
section
namespace Go.Proofs.YtgdnfoijhdpppaaDoor.L
open Go.Ab Go.Tr Go.Mh Go.Proofs.YtgdnfoijhdpppaaDoor.X
set_option maxRecDepth 100000
def blkAt (σ:St) (p:Pt):Nat:=match σ p with
 | some r=>r.blk
 | none=>0
def wayB (σ:St) (p:Pt):List Value:=(List.range p.length).map fun i=>ptr (blkAt σ (p.take i))
theorem wayB_snoc (σ:St) (p:Pt) (nm:Nm):wayB σ (p++[nm])=wayB σ p++[ptr (blkAt σ p)]:=by
 unfold wayB
 rw [List.length_append,List.length_singleton,List.range_succ,List.map_append]
 congr 1
 ·refine List.map_congr_left fun i hi=>?_
  have:=List.mem_range.1 hi
  rw [List.take_append_of_le_length (by omega)]
 ·simp
theorem wayB_len (σ:St) (p:Pt):(wayB σ p).length=p.length:=by simp [wayB]
theorem wayB_one (σ:St) (p:Pt):∀ v ∈ wayB σ p,v.cells.size=1:=by
 intro v hv
 obtain ⟨i,_,rfl⟩:=List.mem_map.1 hv
 rfl
def strs (l:Pt):List Value:=l.map fun x=>.string (mkB x)
theorem ta_dir {b:Nat}:opTypeAssert Tryd.prog (.iface 51 (ptr b)) 51 true=some (.tuple #[ptr b,.bool true]):=by kernel_rfl
theorem ta_dirN {b:Nat}:opTypeAssert Tryd.prog (.iface 56 (ptr b)) 51 true=some (.tuple #[.pointer none,.bool false]):=by kernel_rfl
theorem ta_file {b:Nat}:opTypeAssert Tryd.prog (.iface 56 (ptr b)) 56 true=some (.tuple #[ptr b,.bool true]):=by kernel_rfl
theorem ta_fileN {b:Nat}:opTypeAssert Tryd.prog (.iface 51 (ptr b)) 56 true=some (.tuple #[.pointer none,.bool false]):=by kernel_rfl
theorem ifc_none:ifc none=.nilIface:=rfl
theorem ifc_some {r:Row}:ifc (some r)=ifcR r:=rfl
theorem mi_dir {v:Value}:mi 51 v=some (.iface 51 v):=rfl
theorem walk_loop {h0:AH} {lo:Nat} {σ:St} {K:List Pt} (o:OkD σ K) (t:TW h0 lo σ) {parts:Pt} (hp16:parts.length ≤ 1000000) {Q:Res→AH→Prop}
  (hok:∀ r s h',findF σ [] parts=.ok r→Kp h0.size h0 h'→Hld 51 1 h' h0.size s (wayB σ parts)→(∀ k,blkOf s=some k→k < h'.size)→Q (.ret (.tuple #[s,ifcR r,.int .i64 0])) h')
  (her:∀ s (l:Pt) (e:Int) h',findF σ [] parts=.error e→Kp h0.size h0 h'→Hld 51 1 h' h0.size s (wayB σ l)→(∀ k,blkOf s=some k→k < h'.size)→Q (.ret (.tuple #[s,.nilIface,.int .i64 e])) h') :
  ∀ (d:Nat) (p rest:Pt) (r:Row) (s:Value) (h:AH),rest.length=d→p++rest=parts→σ p=some r→findF σ [] parts=findF σ p rest→Kp h0.size h0 h→Hld 51 1 h h0.size s (wayB σ p)→(∀ k,blkOf s=some k→k < h.size) →
   H33_4 s (ifcR r) (VSl (strs parts)) (.int .i64 (parts.length:Nat)) (.int .i64 (p.length:Nat)) h Q:=by
 intro d
 induction d with
 | zero =>
  intro p rest r s h hd hpr hr hf K0 hs hb
  refine X33_4_ok ?_
  unfold X33_4
  have:rest=[]:=List.eq_nil_of_length_eq_zero hd
  subst this
  rw [List.append_nil] at hpr
  subst hpr
  have e:¬ ((p.length:Int) < (p.length:Nat)):=by omega
  simp (disch:=(first | omega | (simp only [beq_iff_eq,sz_push,sz_put,SC,Nat.reduceAdd,Nat.reduceLeDiff];done) | (simp only [beq_iff_eq,ne_eq,sz_push,sz_put];omega) | assumption | fail)) only [e,SXB,SX,reduceIte,Int.reduceLT,Int.reduceLE,Int.reduceToNat,Int.reduceBEq,Int.reduceBNe,Nat.reduceAdd,Nat.reduceMul,Nat.reduceSub,Nat.reduceLeDiff]
  refine hok r s h ?_ K0 hs hb
  rw [hf];unfold findF;rw [hr]
 | succ d ih =>
  intro p rest r s h hd hpr hr hf K0 hs hb
  refine X33_4_ok ?_
  unfold X33_4
  obtain ⟨nm,rest,rfl⟩:∃ nm r2,rest=nm::r2:=by
   cases rest with
   | nil=>simp at hd
   | cons x l=>exact ⟨x,l,rfl⟩
  have hlen:parts.length=p.length + (d + 1):=by rw [← hpr,List.length_append,hd]
  have e:((p.length:Int) < (parts.length:Nat)):=by omega
  have e0:(0:Int) ≤ (p.length:Nat):=by omega
  have er:(strs parts)[p.length]?=some (.string (mkB nm)):=by
   unfold strs
   rw [List.getElem?_map,← hpr,List.getElem?_append_right (Nat.le_refl _),Nat.sub_self]
   rfl
  have t1:=t.kp K0
  cases r with
  | file b sl oo hd2 ps =>
   unfold ifcR
   simp (disch:=(first | omega | (simp only [beq_iff_eq,sz_push,sz_put,SC,Nat.reduceAdd,Nat.reduceLeDiff];done) | (simp only [beq_iff_eq,ne_eq,sz_push,sz_put];omega) | assumption | fail)) only [e,e0,er,ta_dirN,SXB,SX,reduceIte,Int.reduceLT,Int.reduceLE,Int.reduceToNat,Int.reduceBEq,Int.reduceBNe,Nat.reduceAdd,Nat.reduceMul,Nat.reduceSub,Nat.reduceLeDiff]
   refine her s p 72 h ?_ K0 hs hb
   rw [hf];unfold findF;rw [hr]
  | dir b m clk q c ks =>
   unfold ifcR
   have hw:wayB σ (p++[nm])=wayB σ p++[ptr b]:=by
    rw [wayB_snoc]
    congr 3
    unfold blkAt;rw [hr];rfl
   have hwl:=wayB_len σ p
   obtain ⟨s',h',a1,a2,a3,a4,a5⟩:=hs.append1 (v:=ptr b) (c:=#[ptr b]) (bytes:=8) (zero:=.pointer none) rfl hb (by have:=K0.size;omega) (wayB_one σ p) rfl (by simp [one_pointer]) (by omega) (by omega) (by omega) rfl (by rw [hwl];omega)
   have K1:Kp h0.size h0 h':=K0.trans ⟨a3,fun k hk=>a4 k (by have:=K0.size;omega) (fun e=>by have:=hs.key k e;omega)⟩
   have t2:=t.kp K1
   obtain ⟨g1,g2,g3⟩:=t2.dir hr
   have lk:=look_kid t2 o hr nm
   simp (disch:=(first | omega | (simp only [beq_iff_eq,sz_push,sz_put,SC,Nat.reduceAdd,Nat.reduceLeDiff];done) | (simp only [beq_iff_eq,ne_eq,sz_push,sz_put];omega) | assumption | fail)) only [e,e0,er,ta_dir,a1,g1,lk,SXB,SX,reduceIte,Int.reduceLT,Int.reduceLE,Int.reduceToNat,Int.reduceBEq,Int.reduceBNe,Nat.reduceAdd,Nat.reduceMul,Nat.reduceSub,Nat.reduceLeDiff]
   have hb2:∀ k,blkOf s' = some k→k < h'.size:=by
    intro k hk
    rcases a5 with e5 | ⟨j,e5,_,e6⟩
    ·rw [e5] at hk;have:=hb k hk;omega
    ·rw [e5] at hk;cases hk;exact e6
   cases hs2:σ (p++[nm]) with
   | none =>
    simp (disch:=(first | omega | (simp only [beq_iff_eq,sz_push,sz_put,SC,Nat.reduceAdd,Nat.reduceLeDiff];done) | (simp only [beq_iff_eq,ne_eq,sz_push,sz_put];omega) | assumption | fail)) only [Option.isSome_none,ifc_none,SXB,SX,reduceIte,Int.reduceLT,Int.reduceLE,Int.reduceToNat,Int.reduceBEq,Int.reduceBNe,Nat.reduceAdd,Nat.reduceMul,Nat.reduceSub,Nat.reduceLeDiff]
    refine her s' (p++[nm]) 70 h' ?_ K1 (hw ▸ a2) hb2
    rw [hf];unfold findF;rw [hr];simp only [hs2]
   | some r2 =>
    simp (disch:=(first | omega | (simp only [beq_iff_eq,sz_push,sz_put,SC,Nat.reduceAdd,Nat.reduceLeDiff];done) | (simp only [beq_iff_eq,ne_eq,sz_push,sz_put];omega) | assumption | fail)) only [Option.isSome_some,ifc_some,SXB,SX,reduceIte,Int.reduceLT,Int.reduceLE,Int.reduceToNat,Int.reduceBEq,Int.reduceBNe,Nat.reduceAdd,Nat.reduceMul,Nat.reduceSub,Nat.reduceLeDiff]
    have ei:((p.length:Nat):Int) + 1=((p++[nm]).length:Nat):=by simp
    rw [ei]
    refine ih (p++[nm]) rest r2 s' h' (by simpa using hd) (by simpa using hpr) hs2 ?_ K1 (hw ▸ a2) hb2
    rw [hf]
    conv=>lhs;unfold findF
    rw [hr]
    simp only [hs2]
end Go.Proofs.YtgdnfoijhdpppaaDoor.L
end
section
namespace Go.Proofs.YtgdnfoijhdpppaaDoor.X
open Go.Ab
set_option maxRecDepth 100000
noncomputable def code26:Code:=match Tryd.f26.body with | some c=>c | none=>.skip
noncomputable def res26:List ResultVar:=Tryd.f26.results.toList
def L26:Nat→Option (List Nat):=fun r=>none
noncomputable def X26 (t0:Value) (h:AH) (Q:Res→AH→Prop):Prop :=
 let t2:Value:=(Value.string (ByteArray.mk #[]))
 let t3:Value:=(Value.int .i64 0)
 let t8:Value:=t0
 HC Tryd.prog 35 (([]:List Value)++[t8]++([]:List Value)).toArray h (resK (fun t9 h =>
 let t7:Value:=t9
 bq (opExtract t7 0) fun t10 =>
 bq (opExtract t7 1) fun t11 =>
 bq (opExtract t7 2) fun t12 =>
 let t4:Value:=t10
 let t5:Value:=t11
 let t6:Value:=t12
 let t13:Value:=t5
 let t14:Value:=t6
 let t2:Value:=t13
 let t3:Value:=t14
 Q (.ret (.tuple [t2,t3].toArray)) h) (fun v h=>Q (.pan v) h))
theorem X26_eq (t0:Value) (h:AH) (Q:Res→AH→Prop):X26 t0 h Q=wpC Tryd.prog L26 code26 (argA [t0] Tryd.f26.ntmps) h (retK Tryd.prog res26 Q):=by kernel_rfl
theorem X26_body:Tryd.f26.body=some code26:=by kernel_rfl
theorem X26_ok {t0:Value} {h:AH} {Q:Res→AH→Prop} (H:X26 t0 h Q):HC Tryd.prog 26 [t0].toArray h Q:=HC.body Tryd.func26 X26_body ((X26_eq t0 h Q).mp H)
noncomputable def code28:Code:=match Tryd.f28.body with | some c=>c | none=>.skip
noncomputable def res28:List ResultVar:=Tryd.f28.results.toList
def L28:Nat→Option (List Nat):=fun r=>none
noncomputable def X28 (t0 t1:Value) (h:AH) (Q:Res→AH→Prop):Prop :=
 let t4:Value:=(Value.bool false)
 let t5:Value:=t0
 HC Tryd.prog 29 (([]:List Value)++[t5]++([]:List Value)).toArray h (resK (fun t6 h =>
 bq (binV Tryd.prog .neq 28 (.tmp 6) (.const (Value.int .i64 0)) t6 (Value.int .i64 0) h) fun t7 =>
 let t8:Value:=t7
 guardQ t8 false h (fun k=>k t1 h) fun t9 h =>
 guardQ t8 false h (fun k=>HC Tryd.prog 29 (([]:List Value)++[t9]++([]:List Value)).toArray h (resK k (fun v h=>Q (.pan v) h))) fun t10 h =>
 guardQ t8 false h (fun k=>bq (binV Tryd.prog .neq 28 (.tmp 10) (.const (Value.int .i64 0)) t10 (Value.int .i64 0) h) fun v=>k v h) fun t11 h =>
 bq (pickV t8 (Value.bool true) t11) fun t12 =>
 condP (some t12)
 (let t4:Value:=(Value.bool false)
 Q (.ret t4) h)
 (let t13:Value:=t0
 let t14:Value:=t1
 bq (binV Tryd.prog .eql 9 (.tmp 13) (.tmp 14) t13 t14 h) fun t15 =>
 let t16:Value:=t15
 guardQ t16 false h (fun k=>k t1 h) fun t17 h =>
 guardQ t16 false h (fun k=>bq (binV Tryd.prog .eql 9 (.tmp 17) (.const (Value.string (ByteArray.mk #[47]))) t17 (Value.string (ByteArray.mk #[47])) h) fun v=>k v h) fun t18 h =>
 bq (pickV t16 (Value.bool true) t18) fun t19 =>
 let t20:Value:=t19
 guardQ t20 false h (fun k=>k t0 h) fun t21 h =>
 guardQ t20 false h (fun k=>k t1 h) fun t22 h =>
 guardQ t20 false h (fun k=>bq (binV Tryd.prog .add 9 (.tmp 22) (.const (Value.string (ByteArray.mk #[47]))) t22 (Value.string (ByteArray.mk #[47])) h) fun v=>k v h) fun t23 h =>
 guardQ t20 false h (fun k=>HC Tryd.prog 36 (([]:List Value)++[t21,t23]++([]:List Value)).toArray h (resK k (fun v h=>Q (.pan v) h))) fun t24 h =>
 bq (pickV t20 (Value.bool true) t24) fun t25 =>
 let t4:Value:=t25
 Q (.ret t4) h)) (fun v h=>Q (.pan v) h))
theorem X28_eq (t0 t1:Value) (h:AH) (Q:Res→AH→Prop):X28 t0 t1 h Q=wpC Tryd.prog L28 code28 (argA [t0,t1] Tryd.f28.ntmps) h (retK Tryd.prog res28 Q):=by kernel_rfl
theorem X28_body:Tryd.f28.body=some code28:=by kernel_rfl
theorem X28_ok {t0 t1:Value} {h:AH} {Q:Res→AH→Prop} (H:X28 t0 t1 h Q):HC Tryd.prog 28 [t0,t1].toArray h Q:=HC.body Tryd.func28 X28_body ((X28_eq t0 t1 h Q).mp H)
noncomputable def code29:Code:=match Tryd.f29.body with | some c=>c | none=>.skip
noncomputable def res29:List ResultVar:=Tryd.f29.results.toList
def L29:Nat→Option (List Nat):=fun r=>none
noncomputable def X29 (t0:Value) (h:AH) (Q:Res→AH→Prop):Prop :=
 let t2:Value:=(Value.int .i64 0)
 let t6:Value:=t0
 HC Tryd.prog 32 (([]:List Value)++[t6]++([]:List Value)).toArray h (resK (fun t7 h =>
 let t5:Value:=t7
 bq (opExtract t5 0) fun t8 =>
 bq (opExtract t5 1) fun t9 =>
 let t3:Value:=t8
 let t4:Value:=t9
 let t10:Value:=t4
 let t2:Value:=t10
 Q (.ret t2) h) (fun v h=>Q (.pan v) h))
theorem X29_eq (t0:Value) (h:AH) (Q:Res→AH→Prop):X29 t0 h Q=wpC Tryd.prog L29 code29 (argA [t0] Tryd.f29.ntmps) h (retK Tryd.prog res29 Q):=by kernel_rfl
theorem X29_body:Tryd.f29.body=some code29:=by kernel_rfl
theorem X29_ok {t0:Value} {h:AH} {Q:Res→AH→Prop} (H:X29 t0 h Q):HC Tryd.prog 29 [t0].toArray h Q:=HC.body Tryd.func29 X29_body ((X29_eq t0 h Q).mp H)
noncomputable def code32:Code:=match Tryd.f32.body with | some c=>c | none=>.skip
noncomputable def res32:List ResultVar:=Tryd.f32.results.toList
def L32:Nat→Option (List Nat):=fun r=>none
noncomputable def X32 (t0:Value) (h:AH) (Q:Res→AH→Prop):Prop :=
 let t2:Value:=(Value.slice none 0 0)
 let t3:Value:=(Value.int .i64 0)
 let t7:Value:=t0
 bq (binV Tryd.prog .eql 9 (.tmp 7) (.const (Value.string (ByteArray.mk #[47]))) t7 (Value.string (ByteArray.mk #[47])) h) fun t8 =>
 condP (some t8)
 (let t2:Value:=(Value.slice none 0 0)
 let t3:Value:=(Value.int .i64 0)
 Q (.ret (.tuple [t2,t3].toArray)) h)
 (let t10:Value:=t0
 HC Tryd.prog 40 (([]:List Value)++[t10,(Value.string (ByteArray.mk #[47]))]++([]:List Value)).toArray h (resK (fun t11 h =>
 let t9:Value:=t11
 bq (opExtract t9 0) fun t12 =>
 bq (opExtract t9 1) fun t13 =>
 let t4:Value:=t12
 let t5:Value:=t13
 let t14:Value:=t4
 HC Tryd.prog 41 (([]:List Value)++[t14,(Value.string (ByteArray.mk #[47]))]++([]:List Value)).toArray h (resK (fun t15 h =>
 let t6:Value:=t15
 let t16:Value:=t5
 bq (unV Tryd.prog .not t16) fun t17 =>
 let t18:Value:=t17
 guardQ t18 false h (fun k=>k t0 h) fun t19 h =>
 guardQ t18 false h (fun k=>bq (lenS t19) fun v=>k v h) fun t20 h =>
 guardQ t18 false h (fun k=>bq (binV Tryd.prog .gtr 3 (.tmp 20) (.const (Value.int .i64 256)) t20 (Value.int .i64 256) h) fun v=>k v h) fun t21 h =>
 bq (pickV t18 (Value.bool true) t21) fun t22 =>
 let t23:Value:=t22
 guardQ t23 false h (fun k=>k t6 h) fun t24 h =>
 guardQ t23 false h (fun k=>bq (lenL t24) fun v=>k v h) fun t25 h =>
 guardQ t23 false h (fun k=>bq (binV Tryd.prog .gtr 3 (.tmp 25) (.const (Value.int .i64 16)) t25 (Value.int .i64 16) h) fun v=>k v h) fun t26 h =>
 bq (pickV t23 (Value.bool true) t26) fun t27 =>
 condP (some t27)
 (let t2:Value:=(Value.slice none 0 0)
 let t3:Value:=(Value.int .i64 60)
 Q (.ret (.tuple [t2,t3].toArray)) h)
 (let t28:Value:=t6
 HC Tryd.prog 42 (([]:List Value)++[t28,(Value.func (.func 43) #[] #[])]++([]:List Value)).toArray h (resK (fun t29 h =>
 condP (some t29)
 (let t2:Value:=(Value.slice none 0 0)
 let t3:Value:=(Value.int .i64 60)
 Q (.ret (.tuple [t2,t3].toArray)) h)
 (let t30:Value:=t6
 let t2:Value:=t30
 let t3:Value:=(Value.int .i64 0)
 Q (.ret (.tuple [t2,t3].toArray)) h)) (fun v h=>Q (.pan v) h)))) (fun v h=>Q (.pan v) h))) (fun v h=>Q (.pan v) h)))
theorem X32_eq (t0:Value) (h:AH) (Q:Res→AH→Prop):X32 t0 h Q=wpC Tryd.prog L32 code32 (argA [t0] Tryd.f32.ntmps) h (retK Tryd.prog res32 Q):=by kernel_rfl
theorem X32_body:Tryd.f32.body=some code32:=by kernel_rfl
theorem X32_ok {t0:Value} {h:AH} {Q:Res→AH→Prop} (H:X32 t0 h Q):HC Tryd.prog 32 [t0].toArray h Q:=HC.body Tryd.func32 X32_body ((X32_eq t0 h Q).mp H)
noncomputable def code34:Code:=match Tryd.f34.body with | some c=>c | none=>.skip
noncomputable def res34:List ResultVar:=Tryd.f34.results.toList
def L34:Nat→Option (List Nat):=fun r=>none
noncomputable def X34 (t0:Value) (h:AH) (Q:Res→AH→Prop):Prop :=
 let t2:Value:=(Value.string (ByteArray.mk #[]))
 let t3:Value:=(Value.int .i64 0)
 let t8:Value:=t0
 HC Tryd.prog 35 (([]:List Value)++[t8]++([]:List Value)).toArray h (resK (fun t9 h =>
 let t7:Value:=t9
 bq (opExtract t7 0) fun t10 =>
 bq (opExtract t7 1) fun t11 =>
 bq (opExtract t7 2) fun t12 =>
 let t4:Value:=t10
 let t5:Value:=t11
 let t6:Value:=t12
 let t13:Value:=t4
 let t14:Value:=t6
 let t2:Value:=t13
 let t3:Value:=t14
 Q (.ret (.tuple [t2,t3].toArray)) h) (fun v h=>Q (.pan v) h))
theorem X34_eq (t0:Value) (h:AH) (Q:Res→AH→Prop):X34 t0 h Q=wpC Tryd.prog L34 code34 (argA [t0] Tryd.f34.ntmps) h (retK Tryd.prog res34 Q):=by kernel_rfl
theorem X34_body:Tryd.f34.body=some code34:=by kernel_rfl
theorem X34_ok {t0:Value} {h:AH} {Q:Res→AH→Prop} (H:X34 t0 h Q):HC Tryd.prog 34 [t0].toArray h Q:=HC.body Tryd.func34 X34_body ((X34_eq t0 h Q).mp H)
noncomputable def code35:Code:=match Tryd.f35.body with | some c=>c | none=>.skip
noncomputable def res35:List ResultVar:=Tryd.f35.results.toList
def L35:Nat→Option (List Nat):=fun r=>none
noncomputable def X35 (t0:Value) (h:AH) (Q:Res→AH→Prop):Prop :=
 let t2:Value:=(Value.string (ByteArray.mk #[]))
 let t3:Value:=(Value.string (ByteArray.mk #[]))
 let t4:Value:=(Value.int .i64 0)
 let t6:Value:=t0
 bq (binV Tryd.prog .eql 9 (.tmp 6) (.const (Value.string (ByteArray.mk #[47]))) t6 (Value.string (ByteArray.mk #[47])) h) fun t7 =>
 let t8:Value:=t7
 guardQ t8 false h (fun k=>k t0 h) fun t9 h =>
 guardQ t8 false h (fun k=>HC Tryd.prog 29 (([]:List Value)++[t9]++([]:List Value)).toArray h (resK k (fun v h=>Q (.pan v) h))) fun t10 h =>
 guardQ t8 false h (fun k=>bq (binV Tryd.prog .neq 28 (.tmp 10) (.const (Value.int .i64 0)) t10 (Value.int .i64 0) h) fun v=>k v h) fun t11 h =>
 bq (pickV t8 (Value.bool true) t11) fun t12 =>
 condP (some t12)
 (let t2:Value:=(Value.string (ByteArray.mk #[]))
 let t3:Value:=(Value.string (ByteArray.mk #[]))
 let t4:Value:=(Value.int .i64 60)
 Q (.ret (.tuple [t2,t3,t4].toArray)) h)
 (let t13:Value:=t0
 HC Tryd.prog 45 (([]:List Value)++[t13,(Value.int .u8 47)]++([]:List Value)).toArray h (resK (fun t14 h =>
 let t5:Value:=t14
 let t15:Value:=t0
 let t16:Value:=t5
 (if [t16,(Value.int .i64 1)].all (plainN 12) then bq (flatV Tryd.prog (Builtin.max_ #[3,3] 3 [t16,(Value.int .i64 1)].toArray)) fun t17 =>
 bq (sliceV Tryd.prog h 9 t15 none (some t17)) fun t18 =>
 let t19:Value:=t0
 let t20:Value:=t5
 bq (binV Tryd.prog .add 3 (.tmp 20) (.const (Value.int .i64 1)) t20 (Value.int .i64 1) h) fun t21 =>
 bq (sliceV Tryd.prog h 9 t19 (some t21) none) fun t22 =>
 let t2:Value:=t18
 let t3:Value:=t22
 let t4:Value:=(Value.int .i64 0)
 Q (.ret (.tuple [t2,t3,t4].toArray)) h else False)) (fun v h=>Q (.pan v) h)))
theorem X35_eq (t0:Value) (h:AH) (Q:Res→AH→Prop):X35 t0 h Q=wpC Tryd.prog L35 code35 (argA [t0] Tryd.f35.ntmps) h (retK Tryd.prog res35 Q):=by kernel_rfl
theorem X35_body:Tryd.f35.body=some code35:=by kernel_rfl
theorem X35_ok {t0:Value} {h:AH} {Q:Res→AH→Prop} (H:X35 t0 h Q):HC Tryd.prog 35 [t0].toArray h Q:=HC.body Tryd.func35 X35_body ((X35_eq t0 h Q).mp H)
noncomputable def code42:Code:=match Tryd.f42.body with | some c=>c | none=>.skip
noncomputable def res42:List ResultVar:=Tryd.f42.results.toList
def L42:Nat→Option (List Nat):=fun r=>none
noncomputable def X42 (t0 t1:Value) (h:AH) (Q:Res→AH→Prop):Prop :=
 let t4:Value:=(Value.bool false)
 let t5:Value:=t0
 let t6:Value:=t1
 HC Tryd.prog 52 (([]:List Value)++[t5,t6]++([]:List Value)).toArray h (resK (fun t7 h =>
 bq (binV Tryd.prog .geq 3 (.tmp 7) (.const (Value.int .i64 0)) t7 (Value.int .i64 0) h) fun t8 =>
 let t4:Value:=t8
 Q (.ret t4) h) (fun v h=>Q (.pan v) h))
theorem X42_eq (t0 t1:Value) (h:AH) (Q:Res→AH→Prop):X42 t0 t1 h Q=wpC Tryd.prog L42 code42 (argA [t0,t1] Tryd.f42.ntmps) h (retK Tryd.prog res42 Q):=by kernel_rfl
theorem X42_body:Tryd.f42.body=some code42:=by kernel_rfl
theorem X42_ok {t0 t1:Value} {h:AH} {Q:Res→AH→Prop} (H:X42 t0 t1 h Q):HC Tryd.prog 42 [t0,t1].toArray h Q:=HC.body Tryd.func42 X42_body ((X42_eq t0 t1 h Q).mp H)
noncomputable def code43:Code:=match Tryd.f43.body with | some c=>c | none=>.skip
noncomputable def res43:List ResultVar:=Tryd.f43.results.toList
def L43:Nat→Option (List Nat):=fun r=>none
noncomputable def X43 (t0:Value) (h:AH) (Q:Res→AH→Prop):Prop :=
 let t2:Value:=(Value.bool false)
 let t3:Value:=t0
 HC Tryd.prog 44 (([]:List Value)++[t3]++([]:List Value)).toArray h (resK (fun t4 h =>
 bq (unV Tryd.prog .not t4) fun t5 =>
 let t2:Value:=t5
 Q (.ret t2) h) (fun v h=>Q (.pan v) h))
theorem X43_eq (t0:Value) (h:AH) (Q:Res→AH→Prop):X43 t0 h Q=wpC Tryd.prog L43 code43 (argA [t0] Tryd.f43.ntmps) h (retK Tryd.prog res43 Q):=by kernel_rfl
theorem X43_body:Tryd.f43.body=some code43:=by kernel_rfl
theorem X43_ok {t0:Value} {h:AH} {Q:Res→AH→Prop} (H:X43 t0 h Q):HC Tryd.prog 43 [t0].toArray h Q:=HC.body Tryd.func43 X43_body ((X43_eq t0 h Q).mp H)
noncomputable def code44:Code:=match Tryd.f44.body with | some c=>c | none=>.skip
noncomputable def res44:List ResultVar:=Tryd.f44.results.toList
def L44:Nat→Option (List Nat):=fun r=>if r=2 then some [0,5,6] else none
noncomputable def H44_2 (t0 t5 t6:Value) (h:AH) (Q:Res→AH→Prop):Prop:=HL Tryd.prog (cAt code44 [.r,.l,.r,.i,.i]) (mkA 41 [(0,t0),(5,t5),(6,t6)]) h (ctxAt Tryd.prog L44 code44 [.r,.l,.r,.i] (retK Tryd.prog res44 Q))
noncomputable def X44_2 (t0 t5 t6:Value) (h:AH) (Q:Res→AH→Prop):Prop :=
 bq (binV Tryd.prog .lss 3 (.tmp 6) (.tmp 5) t6 t5 h) fun t7 =>
 condP (some t7)
 (let t8:Value:=t6
 let t3:Value:=t8
 let t9:Value:=t0
 let t10:Value:=t3
 bq (ixS t9 t10) fun t11 =>
 bq (binV Tryd.prog .lss 5 (.tmp 11) (.const (Value.int .u8 33)) t11 (Value.int .u8 33) h) fun t12 =>
 let t13:Value:=t12
 guardQ t13 false h (fun k=>k t0 h) fun t14 h =>
 guardQ t13 false h (fun k=>k t3 h) fun t15 h =>
 guardQ t13 false h (fun k=>bq (ixS t14 t15) fun v=>k v h) fun t16 h =>
 guardQ t13 false h (fun k=>bq (binV Tryd.prog .gtr 5 (.tmp 16) (.const (Value.int .u8 126)) t16 (Value.int .u8 126) h) fun v=>k v h) fun t17 h =>
 bq (pickV t13 (Value.bool true) t17) fun t18 =>
 let t19:Value:=t18
 guardQ t19 false h (fun k=>k t0 h) fun t20 h =>
 guardQ t19 false h (fun k=>k t3 h) fun t21 h =>
 guardQ t19 false h (fun k=>bq (ixS t20 t21) fun v=>k v h) fun t22 h =>
 guardQ t19 false h (fun k=>bq (binV Tryd.prog .eql 5 (.tmp 22) (.const (Value.int .u8 47)) t22 (Value.int .u8 47) h) fun v=>k v h) fun t23 h =>
 bq (pickV t19 (Value.bool true) t23) fun t24 =>
 condP (some t24)
 (let t2:Value:=(Value.bool false)
 Q (.ret t2) h)
 (bq (binV Tryd.prog .add 3 (.tmp 6) (.const (Value.int .i64 1)) t6 (Value.int .i64 1) h) fun t25 =>
 let t6:Value:=t25
 H44_2 t0 t5 t6 h Q))
 (let t26:Value:=t0
 bq (binV Tryd.prog .neq 9 (.tmp 26) (.const (Value.string (ByteArray.mk #[]))) t26 (Value.string (ByteArray.mk #[])) h) fun t27 =>
 let t28:Value:=t27
 guardQ t28 true h (fun k=>k t0 h) fun t29 h =>
 guardQ t28 true h (fun k=>bq (lenS t29) fun v=>k v h) fun t30 h =>
 guardQ t28 true h (fun k=>bq (binV Tryd.prog .leq 3 (.tmp 30) (.const (Value.int .i64 64)) t30 (Value.int .i64 64) h) fun v=>k v h) fun t31 h =>
 bq (pickV t28 t31 (Value.bool false)) fun t32 =>
 let t33:Value:=t32
 guardQ t33 true h (fun k=>k t0 h) fun t34 h =>
 guardQ t33 true h (fun k=>bq (binV Tryd.prog .neq 9 (.tmp 34) (.const (Value.string (ByteArray.mk #[46]))) t34 (Value.string (ByteArray.mk #[46])) h) fun v=>k v h) fun t35 h =>
 bq (pickV t33 t35 (Value.bool false)) fun t36 =>
 let t37:Value:=t36
 guardQ t37 true h (fun k=>k t0 h) fun t38 h =>
 guardQ t37 true h (fun k=>bq (binV Tryd.prog .neq 9 (.tmp 38) (.const (Value.string (ByteArray.mk #[46,46]))) t38 (Value.string (ByteArray.mk #[46,46])) h) fun v=>k v h) fun t39 h =>
 bq (pickV t37 t39 (Value.bool false)) fun t40 =>
 let t2:Value:=t40
 Q (.ret t2) h)
theorem X44_2_eq (t0 t5 t6:Value) (h:AH) (Q:Res→AH→Prop):X44_2 t0 t5 t6 h Q=wpC Tryd.prog L44 (cAt code44 [.r,.l,.r,.i,.i]) (mkA 41 [(0,t0),(5,t5),(6,t6)]) h (ctxAt Tryd.prog L44 code44 [.r,.l,.r,.i,.i] (retK Tryd.prog res44 Q)):=by kernel_rfl
theorem X44_2_ok {t0 t5 t6:Value} {h:AH} {Q:Res→AH→Prop} (H:X44_2 t0 t5 t6 h Q):H44_2 t0 t5 t6 h Q:=HL.step (L:=L44) ((X44_2_eq t0 t5 t6 h Q).mp H)
noncomputable def X44 (t0:Value) (h:AH) (Q:Res→AH→Prop):Prop :=
 let t2:Value:=(Value.bool false)
 let t4:Value:=t0
 bq (lenS t4) fun t5 =>
 let t6:Value:=(Value.int .i64 0)
 H44_2 t0 t5 t6 h Q
theorem X44_eq (t0:Value) (h:AH) (Q:Res→AH→Prop):X44 t0 h Q=wpC Tryd.prog L44 code44 (argA [t0] Tryd.f44.ntmps) h (retK Tryd.prog res44 Q):=by kernel_rfl
theorem X44_body:Tryd.f44.body=some code44:=by kernel_rfl
theorem X44_ok {t0:Value} {h:AH} {Q:Res→AH→Prop} (H:X44 t0 h Q):HC Tryd.prog 44 [t0].toArray h Q:=HC.body Tryd.func44 X44_body ((X44_eq t0 h Q).mp H)
noncomputable def code52:Code:=match Tryd.f52.body with | some c=>c | none=>.skip
noncomputable def res52:List ResultVar:=Tryd.f52.results.toList
def L52:Nat→Option (List Nat):=fun r=>if r=2 then some [0,1,7,8] else none
noncomputable def H52_2 (t0 t1 t7 t8:Value) (h:AH) (Q:Res→AH→Prop):Prop:=HL Tryd.prog (cAt code52 [.r,.l,.r,.i,.i]) (mkA 19 [(0,t0),(1,t1),(7,t7),(8,t8)]) h (ctxAt Tryd.prog L52 code52 [.r,.l,.r,.i] (retK Tryd.prog res52 Q))
noncomputable def X52_2 (t0 t1 t7 t8:Value) (h:AH) (Q:Res→AH→Prop):Prop :=
 bq (binV Tryd.prog .lss 3 (.tmp 8) (.tmp 7) t8 t7 h) fun t9 =>
 condP (some t9)
 (let t10:Value:=t8
 let t5:Value:=t10
 let t11:Value:=t1
 let t12:Value:=t0
 let t13:Value:=t5
 bq (ia 1 t12 t13) fun t14 =>
 bq (ld1 h t14) fun t15 =>
 callP Tryd.prog t11 [t15] h (fun t16 h =>
 condP (some t16)
 (let t17:Value:=t5
 let t4:Value:=t17
 Q (.ret t4) h)
 (bq (binV Tryd.prog .add 3 (.tmp 8) (.const (Value.int .i64 1)) t8 (Value.int .i64 1) h) fun t18 =>
 let t8:Value:=t18
 H52_2 t0 t1 t7 t8 h Q)) (fun v h=>Q (.pan v) h))
 (let t4:Value:=(Value.int .i64 (-1))
 Q (.ret t4) h)
theorem X52_2_eq (t0 t1 t7 t8:Value) (h:AH) (Q:Res→AH→Prop):X52_2 t0 t1 t7 t8 h Q=wpC Tryd.prog L52 (cAt code52 [.r,.l,.r,.i,.i]) (mkA 19 [(0,t0),(1,t1),(7,t7),(8,t8)]) h (ctxAt Tryd.prog L52 code52 [.r,.l,.r,.i,.i] (retK Tryd.prog res52 Q)):=by kernel_rfl
theorem X52_2_ok {t0 t1 t7 t8:Value} {h:AH} {Q:Res→AH→Prop} (H:X52_2 t0 t1 t7 t8 h Q):H52_2 t0 t1 t7 t8 h Q:=HL.step (L:=L52) ((X52_2_eq t0 t1 t7 t8 h Q).mp H)
noncomputable def X52 (t0 t1:Value) (h:AH) (Q:Res→AH→Prop):Prop :=
 let t4:Value:=(Value.int .i64 0)
 let t6:Value:=t0
 bq (lenL t6) fun t7 =>
 let t8:Value:=(Value.int .i64 0)
 H52_2 t0 t1 t7 t8 h Q
theorem X52_eq (t0 t1:Value) (h:AH) (Q:Res→AH→Prop):X52 t0 t1 h Q=wpC Tryd.prog L52 code52 (argA [t0,t1] Tryd.f52.ntmps) h (retK Tryd.prog res52 Q):=by kernel_rfl
theorem X52_body:Tryd.f52.body=some code52:=by kernel_rfl
theorem X52_ok {t0 t1:Value} {h:AH} {Q:Res→AH→Prop} (H:X52 t0 t1 h Q):HC Tryd.prog 52 [t0,t1].toArray h Q:=HC.body Tryd.func52 X52_body ((X52_eq t0 t1 h Q).mp H)
end Go.Proofs.YtgdnfoijhdpppaaDoor.X
end
section
namespace Go.Proofs
open Go.Shelf
def Tryd.lays103_ren:Go.Shelf.Ren:=⟨fun | 103=>40 | 210=>50 | 206=>46 | n=>n,fun | 9=>9 | 4=>4 | 24=>95 | 3=>3 | n=>n,fun | n=>n⟩
theorem Tryd.lays103:Go.Proofs.Lays.n103 Tryd.prog Tryd.lays103_ren:={
 mixed:=by kernel_rfl
 f103:=Tryd.func40.trans (congrArg some (by kernel_rfl))
 f206:=Tryd.func46.trans (congrArg some (by kernel_rfl))
 f210:=Tryd.func50.trans (congrArg some (by kernel_rfl))
 t3:=Tryd.underlying3
 a3:=Tryd.isAgg3
 z3:=Tryd.sizeOf3
 v3:=Tryd.zeroValue3
 t4:=Tryd.underlying4
 a4:=Tryd.isAgg4
 z4:=Tryd.sizeOf4
 v4:=Tryd.zeroValue4
 t9:=Tryd.underlying9
 a9:=Tryd.isAgg9
 z9:=Tryd.sizeOf9
 v9:=Tryd.zeroValue9
 t24:=Tryd.underlying95
 a24:=Tryd.isAgg95
 z24:=Tryd.sizeOf95
 v24:=Tryd.zeroValue95 }
open Go.RowKit in
theorem Tryd.strings_CutPrefix (s p:ByteArray) (w:World) :
  Calls Tryd.prog 40 #[.string s,.string p] w fun e w'=>e=.returned (.tuple #[.string ⟨(Lib.trimPrefix s.data.toList p.data.toList).toArray⟩,.bool (Lib.hasPrefix s.data.toList p.data.toList)])∧w' = w:=Any.strings_CutPrefix Tryd.lays103 s p w
def Tryd.lays219_ren:Go.Shelf.Ren:=⟨fun | 219=>77 | 217=>80 | 225=>81 | 224=>82 | 267=>83 | 266=>84 | 314=>85 | n=>n,fun | 9=>9 | 3=>3 | 4=>4 | 5=>5 | 46=>103 | 146=>136 | 51=>32 | n=>n,fun | 1=>0 | n=>n⟩
theorem Tryd.lays219:Go.Proofs.Lays.n219 Tryd.prog Tryd.lays219_ren:={
 mixed:=by kernel_rfl
 f217:=Tryd.func80.trans (congrArg some (by kernel_rfl))
 f219:=Tryd.func77.trans (congrArg some (by kernel_rfl))
 f224:=Tryd.func82.trans (congrArg some (by kernel_rfl))
 f225:=Tryd.func81.trans (congrArg some (by kernel_rfl))
 f266:=Tryd.func84.trans (congrArg some (by kernel_rfl))
 f267:=Tryd.func83.trans (congrArg some (by kernel_rfl))
 f314:=Tryd.func85.trans (congrArg some (by kernel_rfl))
 t3:=Tryd.underlying3
 a3:=Tryd.isAgg3
 z3:=Tryd.sizeOf3
 v3:=Tryd.zeroValue3
 t4:=Tryd.underlying4
 a4:=Tryd.isAgg4
 z4:=Tryd.sizeOf4
 v4:=Tryd.zeroValue4
 t5:=Tryd.underlying5
 a5:=Tryd.isAgg5
 z5:=Tryd.sizeOf5
 v5:=Tryd.zeroValue5
 t9:=Tryd.underlying9
 a9:=Tryd.isAgg9
 z9:=Tryd.sizeOf9
 v9:=Tryd.zeroValue9
 t46:=Tryd.underlying103
 a46:=Tryd.isAgg103
 z46:=Tryd.sizeOf103
 v46:=Tryd.zeroValue103
 t51:=Tryd.underlying32
 a51:=Tryd.isAgg32
 z51:=Tryd.sizeOf32
 v51:=Tryd.zeroValue32
 t146:=Tryd.underlying136
 a146:=Tryd.isAgg136
 z146:=Tryd.sizeOf136
 v146:=Tryd.zeroValue136
 g1:=by kernel_rfl }
open Go.RowKit Go.Lib in
theorem Tryd.stringslite_Index (s sub:ByteArray) (m:Int) (w:World) (hs:s.size < 4294967281) (hm:w.cell? ⟨0,0,none⟩=some (.int .i64 m)) :
  Calls Tryd.prog 77 #[.string s,.string sub] w fun e w'=>e=.returned (.int .i64 (Lib.index s.data.toList sub.data.toList))∧w' = w:=Any.stringslite_Index Tryd.lays219 s sub m w hs hm
def Tryd.laysM219_ren:Go.Shelf.Ren:=⟨fun | 219=>77 | 217=>80 | 225=>81 | 224=>82 | 267=>83 | 266=>84 | 314=>85 | n=>n,fun | 9=>9 | 3=>3 | 4=>4 | 5=>5 | 46=>103 | 146=>136 | 51=>32 | n=>n,fun | 1=>0 | n=>n⟩
theorem Tryd.laysM219:Go.Proofs.LaysM.n219 Tryd.prog Tryd.laysM219_ren:={
 mixed:=by kernel_rfl
 f217:=Tryd.func80.trans (congrArg some (by kernel_rfl))
 f219:=Tryd.func77.trans (congrArg some (by kernel_rfl))
 f224:=Tryd.func82.trans (congrArg some (by kernel_rfl))
 f225:=Tryd.func81.trans (congrArg some (by kernel_rfl))
 f266:=Tryd.func84.trans (congrArg some (by kernel_rfl))
 f267:=Tryd.func83.trans (congrArg some (by kernel_rfl))
 f314:=Tryd.func85.trans (congrArg some (by kernel_rfl))
 t3:=Tryd.underlying3
 a3:=Tryd.isAgg3
 z3:=Tryd.sizeOf3
 v3:=Tryd.zeroValue3
 t4:=Tryd.underlying4
 a4:=Tryd.isAgg4
 z4:=Tryd.sizeOf4
 v4:=Tryd.zeroValue4
 t5:=Tryd.underlying5
 a5:=Tryd.isAgg5
 z5:=Tryd.sizeOf5
 v5:=Tryd.zeroValue5
 t9:=Tryd.underlying9
 a9:=Tryd.isAgg9
 z9:=Tryd.sizeOf9
 v9:=Tryd.zeroValue9
 t46:=Tryd.underlying103
 a46:=Tryd.isAgg103
 z46:=Tryd.sizeOf103
 v46:=Tryd.zeroValue103
 t51:=Tryd.underlying32
 a51:=Tryd.isAgg32
 z51:=Tryd.sizeOf32
 v51:=Tryd.zeroValue32
 t146:=Tryd.underlying136
 a146:=Tryd.isAgg136
 z146:=Tryd.sizeOf136
 v146:=Tryd.zeroValue136
 g1:=by kernel_rfl
 i3:=by kernel_rfl
 i4:=by kernel_rfl
 i5:=by kernel_rfl
 i9:=by kernel_rfl
 i46:=by kernel_rfl
 i51:=by kernel_rfl
 i146:=by kernel_rfl
 m1:=by kernel_rfl
 s1_3:=fun w h=>Go.Proofs.cell_of_shapedOpen_int (zero:=#[.int .i64 0]) (t:=3) h (of_decide_eq_true (by kernel_rfl)) (by kernel_rfl) rfl (by kernel_rfl) (by kernel_rfl) Tryd.underlying3 }
def Tryd.lays190_ren:Go.Shelf.Ren:=⟨fun | 190=>38 | 125=>49 | 258=>48 | 128=>63 | 129=>64 | 302=>54 | 303=>55 | 304=>56 | 305=>57 | 306=>58 | 307=>59 | 308=>60 | 309=>61 | 310=>62 | 333=>68 | 329=>69 | 330=>70 | 334=>71 | 335=>72 | 336=>73 | 344=>78 | n=>n,fun | 31=>27 | 9=>9 | 3=>3 | 46=>103 | 0=>0 | 51=>32 | 53=>116 | 4=>4 | 183=>108 | 182=>107 | 131=>112 | 5=>5 | 218=>119 | 222=>123 | 228=>128 | 229=>129 | n=>n,fun | n=>n⟩
theorem Tryd.lays190:Go.Proofs.Lays.n190 Tryd.prog Tryd.lays190_ren:={
 mixed:=by kernel_rfl
 f125:=Tryd.func49.trans (congrArg some (by kernel_rfl))
 f128:=Tryd.func63.trans (congrArg some (by kernel_rfl))
 f129:=Tryd.func64.trans (congrArg some (by kernel_rfl))
 f190:=Tryd.func38.trans (congrArg some (by kernel_rfl))
 f258:=Tryd.func48.trans (congrArg some (by kernel_rfl))
 f302:=Tryd.func54.trans (congrArg some (by kernel_rfl))
 f303:=Tryd.func55.trans (congrArg some (by kernel_rfl))
 f304:=Tryd.func56.trans (congrArg some (by kernel_rfl))
 f305:=Tryd.func57.trans (congrArg some (by kernel_rfl))
 f306:=Tryd.func58.trans (congrArg some (by kernel_rfl))
 f307:=Tryd.func59.trans (congrArg some (by kernel_rfl))
 f308:=Tryd.func60.trans (congrArg some (by kernel_rfl))
 f309:=Tryd.func61.trans (congrArg some (by kernel_rfl))
 f310:=Tryd.func62.trans (congrArg some (by kernel_rfl))
 f329:=Tryd.func69.trans (congrArg some (by kernel_rfl))
 f330:=Tryd.func70.trans (congrArg some (by kernel_rfl))
 f333:=Tryd.func68.trans (congrArg some (by kernel_rfl))
 f334:=Tryd.func71.trans (congrArg some (by kernel_rfl))
 f335:=Tryd.func72.trans (congrArg some (by kernel_rfl))
 f336:=Tryd.func73.trans (congrArg some (by kernel_rfl))
 f344:=Tryd.func78.trans (congrArg some (by kernel_rfl))
 t0:=Tryd.underlying0
 a0:=Tryd.isAgg0
 z0:=Tryd.sizeOf0
 v0:=Tryd.zeroValue0
 t3:=Tryd.underlying3
 a3:=Tryd.isAgg3
 z3:=Tryd.sizeOf3
 v3:=Tryd.zeroValue3
 t4:=Tryd.underlying4
 a4:=Tryd.isAgg4
 z4:=Tryd.sizeOf4
 v4:=Tryd.zeroValue4
 t5:=Tryd.underlying5
 a5:=Tryd.isAgg5
 z5:=Tryd.sizeOf5
 v5:=Tryd.zeroValue5
 t9:=Tryd.underlying9
 a9:=Tryd.isAgg9
 z9:=Tryd.sizeOf9
 v9:=Tryd.zeroValue9
 t31:=Tryd.underlying27
 a31:=Tryd.isAgg27
 z31:=Tryd.sizeOf27
 v31:=Tryd.zeroValue27
 t46:=Tryd.underlying103
 a46:=Tryd.isAgg103
 z46:=Tryd.sizeOf103
 v46:=Tryd.zeroValue103
 t51:=Tryd.underlying32
 a51:=Tryd.isAgg32
 z51:=Tryd.sizeOf32
 v51:=Tryd.zeroValue32
 t53:=Tryd.underlying116
 a53:=Tryd.isAgg116
 z53:=Tryd.sizeOf116
 v53:=Tryd.zeroValue116
 t131:=Tryd.underlying112
 a131:=Tryd.isAgg112
 z131:=Tryd.sizeOf112
 v131:=Tryd.zeroValue112
 t182:=Tryd.underlying107
 a182:=Tryd.isAgg107
 z182:=Tryd.sizeOf107
 v182:=Tryd.zeroValue107
 t183:=Tryd.underlying108
 a183:=Tryd.isAgg108
 z183:=Tryd.sizeOf108
 v183:=Tryd.zeroValue108
 t218:=Tryd.underlying119
 a218:=Tryd.isAgg119
 z218:=Tryd.sizeOf119
 v218:=Tryd.zeroValue119
 t222:=Tryd.underlying123
 a222:=Tryd.isAgg123
 z222:=Tryd.sizeOf123
 v222:=Tryd.zeroValue123
 t228:=Tryd.underlying128
 a228:=Tryd.isAgg128
 z228:=Tryd.sizeOf128
 v228:=Tryd.zeroValue128
 t229:=Tryd.underlying129
 a229:=Tryd.isAgg129
 z229:=Tryd.sizeOf129
 v229:=Tryd.zeroValue129 }
open Go.Sort Go.RowKit in
theorem Tryd.slices_Sort_string (blk off cap:Nat) (ss:List (List UInt8)) (w:World) (hH:Holds encStr w blk off ss.toArray) (hblk:blk < w.heap.size) (hsz:ss.length < 4611686018427387904) :
  Calls Tryd.prog 38 #[.slice (some ⟨blk,off,none⟩) ss.length cap] w fun e w' =>
   e=.returned (.tuple #[])∧∃ n os,w' = grow (putRow encStr (Sort.ahead w n) blk off (ss.mergeSort fun x y=>decide (x ≤ y)).toArray) os:=Any.slices_Sort_string Tryd.lays190 blk off cap ss w hH hblk hsz
def Tryd.lays149_ren:Go.Shelf.Ren:=⟨fun | 149=>45 | 222=>53 | n=>n,fun | 9=>9 | 5=>5 | 3=>3 | 4=>4 | n=>n,fun | n=>n⟩
theorem Tryd.lays149:Go.Proofs.Lays.n149 Tryd.prog Tryd.lays149_ren:={
 mixed:=by kernel_rfl
 f149:=Tryd.func45.trans (congrArg some (by kernel_rfl))
 f222:=Tryd.func53.trans (congrArg some (by kernel_rfl))
 t3:=Tryd.underlying3
 a3:=Tryd.isAgg3
 z3:=Tryd.sizeOf3
 v3:=Tryd.zeroValue3
 t4:=Tryd.underlying4
 a4:=Tryd.isAgg4
 z4:=Tryd.sizeOf4
 v4:=Tryd.zeroValue4
 t5:=Tryd.underlying5
 a5:=Tryd.isAgg5
 z5:=Tryd.sizeOf5
 v5:=Tryd.zeroValue5
 t9:=Tryd.underlying9
 a9:=Tryd.isAgg9
 z9:=Tryd.sizeOf9
 v9:=Tryd.zeroValue9 }
open Go.RowKit Go.Lib in
theorem Tryd.strings_LastIndexByte (s:ByteArray) (c:Int) (hs:s.size < 4611686018427387904) (w:World) :
  Calls Tryd.prog 45 #[.string s,.int .u8 c] w fun e w'=>e=.returned (.int .i64 (Lib.lastIndexByte s c))∧w' = w:=Any.strings_LastIndexByte Tryd.lays149 s c hs w
def Tryd.lays99_ren:Go.Shelf.Ren:=⟨fun | 99=>36 | 206=>46 | n=>n,fun | 9=>9 | 4=>4 | 3=>3 | n=>n,fun | n=>n⟩
theorem Tryd.lays99:Go.Proofs.Lays.n99 Tryd.prog Tryd.lays99_ren:={
 mixed:=by kernel_rfl
 f99:=Tryd.func36.trans (congrArg some (by kernel_rfl))
 f206:=Tryd.func46.trans (congrArg some (by kernel_rfl))
 t3:=Tryd.underlying3
 a3:=Tryd.isAgg3
 z3:=Tryd.sizeOf3
 v3:=Tryd.zeroValue3
 t4:=Tryd.underlying4
 a4:=Tryd.isAgg4
 z4:=Tryd.sizeOf4
 v4:=Tryd.zeroValue4
 t9:=Tryd.underlying9
 a9:=Tryd.isAgg9
 z9:=Tryd.sizeOf9
 v9:=Tryd.zeroValue9 }
open Go.RowKit Go.Lib in
theorem Tryd.strings_HasPrefix (s p:ByteArray) (w:World) :
  Calls Tryd.prog 36 #[.string s,.string p] w fun e w'=>e=.returned (.bool (Lib.hasPrefix s.data.toList p.data.toList))∧w' = w:=Any.strings_HasPrefix Tryd.lays99 s p w
def Tryd.lays146_ren:Go.Shelf.Ren:=⟨fun | 146=>41 | 221=>51 | 268=>65 | 138=>66 | 143=>67 | 195=>74 | 197=>75 | 218=>76 | 219=>77 | 260=>79 | 217=>80 | 225=>81 | 224=>82 | 267=>83 | 266=>84 | 314=>85 | n=>n,fun | 9=>9 | 31=>27 | 3=>3 | 4=>4 | 0=>0 | 105=>126 | 21=>21 | 5=>5 | 46=>103 | 119=>132 | 139=>135 | 138=>134 | 146=>136 | 51=>32 | n=>n,fun | 1=>0 | 3=>1 | 4=>2 | n=>n⟩
theorem Tryd.lays146:Go.Proofs.Lays.n146 Tryd.prog Tryd.lays146_ren:={
 mixed:=by kernel_rfl
 f138:=Tryd.func66.trans (congrArg some (by kernel_rfl))
 f143:=Tryd.func67.trans (congrArg some (by kernel_rfl))
 f146:=Tryd.func41.trans (congrArg some (by kernel_rfl))
 f195:=Tryd.func74.trans (congrArg some (by kernel_rfl))
 f197:=Tryd.func75.trans (congrArg some (by kernel_rfl))
 f217:=Tryd.func80.trans (congrArg some (by kernel_rfl))
 f218:=Tryd.func76.trans (congrArg some (by kernel_rfl))
 f219:=Tryd.func77.trans (congrArg some (by kernel_rfl))
 f221:=Tryd.func51.trans (congrArg some (by kernel_rfl))
 f224:=Tryd.func82.trans (congrArg some (by kernel_rfl))
 f225:=Tryd.func81.trans (congrArg some (by kernel_rfl))
 f260:=Tryd.func79.trans (congrArg some (by kernel_rfl))
 f266:=Tryd.func84.trans (congrArg some (by kernel_rfl))
 f267:=Tryd.func83.trans (congrArg some (by kernel_rfl))
 f268:=Tryd.func65.trans (congrArg some (by kernel_rfl))
 f314:=Tryd.func85.trans (congrArg some (by kernel_rfl))
 t0:=Tryd.underlying0
 a0:=Tryd.isAgg0
 z0:=Tryd.sizeOf0
 v0:=Tryd.zeroValue0
 t3:=Tryd.underlying3
 a3:=Tryd.isAgg3
 z3:=Tryd.sizeOf3
 v3:=Tryd.zeroValue3
 t4:=Tryd.underlying4
 a4:=Tryd.isAgg4
 z4:=Tryd.sizeOf4
 v4:=Tryd.zeroValue4
 t5:=Tryd.underlying5
 a5:=Tryd.isAgg5
 z5:=Tryd.sizeOf5
 v5:=Tryd.zeroValue5
 t9:=Tryd.underlying9
 a9:=Tryd.isAgg9
 z9:=Tryd.sizeOf9
 v9:=Tryd.zeroValue9
 t21:=Tryd.underlying21
 a21:=Tryd.isAgg21
 z21:=Tryd.sizeOf21
 v21:=Tryd.zeroValue21
 t31:=Tryd.underlying27
 a31:=Tryd.isAgg27
 z31:=Tryd.sizeOf27
 v31:=Tryd.zeroValue27
 t46:=Tryd.underlying103
 a46:=Tryd.isAgg103
 z46:=Tryd.sizeOf103
 v46:=Tryd.zeroValue103
 t51:=Tryd.underlying32
 a51:=Tryd.isAgg32
 z51:=Tryd.sizeOf32
 v51:=Tryd.zeroValue32
 t105:=Tryd.underlying126
 a105:=Tryd.isAgg126
 z105:=Tryd.sizeOf126
 v105:=Tryd.zeroValue126
 t119:=Tryd.underlying132
 a119:=Tryd.isAgg132
 z119:=Tryd.sizeOf132
 t138:=Tryd.underlying134
 a138:=Tryd.isAgg134
 z138:=Tryd.sizeOf134
 v138:=Tryd.zeroValue134
 t139:=Tryd.underlying135
 a139:=Tryd.isAgg135
 z139:=Tryd.sizeOf135
 v139:=Tryd.zeroValue135
 t146:=Tryd.underlying136
 a146:=Tryd.isAgg136
 z146:=Tryd.sizeOf136
 v146:=Tryd.zeroValue136
 g1:=by kernel_rfl
 g3:=by kernel_rfl
 g4:=by kernel_rfl }
open Go.RowKit Go.Lib in
theorem Tryd.strings_Split (s sep:ByteArray) (m:Int) (w:World) (hs:s.size < 4294967281) (hm:w.cell? ⟨0,0,none⟩=some (.int .i64 m)) (h1:1 ≤ sep.size) :
  Calls Tryd.prog 41 #[.string s,.string sep] w fun e w' =>
   e=.returned (.slice (some ⟨w.heap.size,0,none⟩) (Lib.countB s sep + 1) (Lib.countB s sep + 1))∧w' = w.alloc (.cells ((Lib.splitB sep 0 (Lib.countB s sep) s).map Value.string).toArray 9):=Any.strings_Split Tryd.lays146 (by kernel_rfl) s sep m w hs hm h1
open Go.RowKit Go.Sort in
theorem Tryd.slices_Sort_string_none (p:Option Addr) (cap:Nat) (w:World) :
  Calls Tryd.prog 38 #[.slice p 0 cap] w fun e w'=>e=.returned (.tuple #[])∧w' = w:=Any.slices_Sort_string_none Tryd.lays190 p cap w
end Go.Proofs
end
section
namespace Go.Ab
theorem RA.eq_of_plain {E:Ren} {args args':Array Value} {n:Nat} (ra:RA E args args') (ha:args.toList.all (plainN n)=true):args' = args:=by
 apply Array.ext ra.1.symm
 intro i h1 h2
 exact RV.eq_of_plain (List.all_eq_true.1 ha _ (Array.getElem_mem_toList _)) (ra.2 i _ _ (Array.getElem?_eq_getElem h2) (Array.getElem?_eq_getElem h1))
theorem Ex.of_calls {P:Program} {f:FuncId} {args:Array Value} {v:Value} {n:Nat} {h:AH} (ha:args.toList.all (plainN n)=true) (hv:plainN n v=true) (hc:∀ w,Calls P f args w fun e w'=>e=.returned v∧w' = w):Ex P f args h v h:=by
 intro E w args' r ra
 have:=ra.eq_of_plain ha
 subst this
 refine (hc w).mono ?_
 rintro e' w' ⟨rfl,rfl⟩
 exact ⟨E,.ret v,h,(RV.of_plain hv:RV E v v),r,.refl E w',rfl,rfl⟩
end Go.Ab
end
section
namespace Go.Ab
theorem RV.newSl {E:Ren} {b s:Nat} {l:List Value} {c:Array Value} (hf:E.fro b=some c) (hs:0 < s) (hl:∀ v ∈ l,v.cells.size=s) (hp:∀ v ∈ flatC l,plainN 13 v=true) (hc:c.toList.take (flatC l).length=flatC l) {cap:Nat} (hcap:l.length ≤ cap) :
  RV E (VSl l) (.slice (some ⟨b,0,none⟩) l.length cap):=by
 have hlen:=flatC_length hl
 have hle:(flatC l).length ≤ c.size:=by
  have:=congrArg List.length hc
  rw [List.length_take] at this
  have h2:c.toList.length=c.size:=by simp
  omega
 refine .vs hf hs hl (by omega) hcap fun i v v' h1 h2=>?_
 have hi:=(List.getElem?_eq_some_iff.1 h1).1
 rw [Nat.zero_add] at h2
 have h3:(flatC l)[i]?=some v':=by
  rw [← hc,List.getElem?_take,if_pos hi]
  simpa using h2
 rw [h1] at h3
 cases h3
 exact RV.of_plain (hp v (List.mem_of_getElem? h1))
theorem Ex.of_alloc {P:Program} {f:FuncId} {args:Array Value} {l:List Value} {n s:Nat} {t:TypeId} {h:AH} {g:Nat} {m:Int} {c:Array Value} {e:TypeId} {fz:Nat × Nat} {so:Option Nat} (hg:g < P.globals.size) (h1:h.get g=some (.cells c e fz,so)) (h2:c[0]?=some (.int .i64 m))
  (ha:args.toList.all (plainN n)=true) (hs:0 < s) (hl:∀ v ∈ l,v.cells.size=s) (hp:∀ v ∈ flatC l,plainN 13 v=true)
  (hc:∀ w,w.cell? ⟨g,0,none⟩=some (.int .i64 m)→Calls P f args w fun e w'=>e=.returned (.slice (some ⟨w.heap.size,0,none⟩) l.length l.length)∧w' = w.alloc (.cells (flatC l).toArray t)):Ex P f args h (VSl l) h:=by
 intro E w args' r ra
 have:=ra.eq_of_plain ha
 subst this
 obtain ⟨c',fz',g1,g2,g3,_⟩:=r.cells h1 (r.glob g hg)
 have hlt:0 < c.size:=(Array.getElem?_eq_some_iff.1 h2).1
 have h5:=g3 0 _ _ h2 (Array.getElem?_eq_getElem (by omega))
 have h6:w.cell? ⟨g,0,none⟩=some (.int .i64 m):=by
  have h7:c'[0]?=some (Value.int .i64 m):=by
   rw [Array.getElem?_eq_getElem (by omega)]
   generalize hz:c'[0]=z at h5
   cases h5
   rfl
  simp [World.cell?,g1,h7]
 refine (hc w h6).mono ?_
 rintro e' w' ⟨rfl,rfl⟩
 obtain ⟨r1,x1⟩:=r.froz (flatC l).toArray t
 refine ⟨_,.ret (VSl l),h,(?_:RV _ (VSl l) _),r1,x1,rfl,rfl⟩
 exact RV.newSl (by show (if w.heap.size=w.heap.size then some _ else _)=some (flatC l).toArray;rw [if_pos rfl]) hs hl hp (by simp) (Nat.le_refl _)
end Go.Ab
end
