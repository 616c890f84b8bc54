import Derived.KernelRfl
import Derived.Test.YtibigfkeaemanaaGreatDoorProg
import Derived.Test.YtibigfkeaemanaaGreatDoorZ14
set_option linter.unusedVariables false
set_option linter.unusedSimpArgs false
section
namespace Go.Proofs.YtibigfkeaemanaaGreatDoor.X
open Go.Ab
set_option maxRecDepth 100000
noncomputable def code47:Code:=match Tryz.f47.body with | some c=>c | none=>.skip
noncomputable def res47:List ResultVar:=Tryz.f47.results.toList
def L47:Nat→Option (List Nat):=fun r=>none
noncomputable def X47 (t0:Value) (h:AH) (Q:RQ):Prop :=
 (fun t2 h =>
 let t3:Value:=t0
 bq (nilV Tryz.prog t3) fun t4 =>
 bq (fa 0 1 t4) fun t5 =>
 bq (ld1 h t5) fun t6 =>
 bq (ia 3 t6 (Value.int .i64 0)) fun t7 =>
 bq (ldN 3 h t7) fun t8 =>
 bq (stN 3 h t2 t8) fun h=>(fun _ h =>
 bq (seqO [ldN 3 h t2]) fun vs=>Q (.ret (oneOf vs)) h) undef h) (opNew h 55 #[(Value.int .i64 0),(Value.int .i64 0),(Value.string (ByteArray.mk #[]))]).1 (opNew h 55 #[(Value.int .i64 0),(Value.int .i64 0),(Value.string (ByteArray.mk #[]))]).2
theorem X47_eq (t0:Value) (h:AH) (Q:RQ):X47 t0 h Q=wpC Tryz.prog L47 code47 (argA [t0] Tryz.f47.ntmps) h (retK Tryz.prog res47 Q):=by kernel_rfl
theorem X47_body:Tryz.f47.body=some code47:=by kernel_rfl
theorem X47_ok {t0:Value} {h:AH} {Q:RQ} (H:X47 t0 h Q):HC Tryz.prog 47 [t0].toArray h Q:=HC.body Tryz.func47 X47_body ((X47_eq t0 h Q).mp H)
noncomputable def code30:Code:=match Tryz.f30.body with | some c=>c | none=>.skip
noncomputable def res30:List ResultVar:=Tryz.f30.results.toList
def L30:Nat→Option (List Nat):=fun r=>none
noncomputable def X30 (t0 t1 t2:Value) (h:AH) (Q:RQ):Prop :=
 let t6:Value:=(Value.bool false)
 let t7:Value:=t0
 HC Tryz.prog 47 (([]:List Value)++[t7]++([]:List Value)).toArray h (resK (fun t8 h =>
 bq (fd1 0 t8) fun t9 =>
 let t10:Value:=t1
 bq (binV Tryz.prog .eql 53 (.tmp 9) (.tmp 10) t9 t10 h) fun t11 =>
 let t12:Value:=t11
 guardQ t12 true h (fun k=>k t0 h) fun t13 h =>
 guardQ t12 true h (fun k=>HC Tryz.prog 47 (([]:List Value)++[t13]++([]:List Value)).toArray h (resK k (fun v h=>Q (.pan v) h))) fun t14 h =>
 guardQ t12 true h (fun k=>bq (fd1 2 t14) fun v=>k v h) fun t15 h =>
 guardQ t12 true h (fun k=>k t2 h) fun t16 h =>
 guardQ t12 true h (fun k=>bq (binV Tryz.prog .eql 9 (.tmp 15) (.tmp 16) t15 t16 h) fun v=>k v h) fun t17 h =>
 bq (pickV t12 t17 (Value.bool false)) fun t18 =>
 let t6:Value:=t18
 Q (.ret t6) h) (fun v h=>Q (.pan v) h))
theorem X30_eq (t0 t1 t2:Value) (h:AH) (Q:RQ):X30 t0 t1 t2 h Q=wpC Tryz.prog L30 code30 (argA [t0,t1,t2] Tryz.f30.ntmps) h (retK Tryz.prog res30 Q):=by kernel_rfl
theorem X30_body:Tryz.f30.body=some code30:=by kernel_rfl
theorem X30_ok {t0 t1 t2:Value} {h:AH} {Q:RQ} (H:X30 t0 t1 t2 h Q):HC Tryz.prog 30 [t0,t1,t2].toArray h Q:=HC.body Tryz.func30 X30_body ((X30_eq t0 t1 t2 h Q).mp H)
noncomputable def code31:Code:=match Tryz.f31.body with | some c=>c | none=>.skip
noncomputable def res31:List ResultVar:=Tryz.f31.results.toList
def L31:Nat→Option (List Nat):=fun r=>none
noncomputable def X31 (t0:Value) (h:AH) (Q:RQ):Prop :=
 (fun t2 h =>
 let t4:Value:=t0
 bq (nilV Tryz.prog t4) fun t5 =>
 bq (fa 0 1 t5) fun t6 =>
 bq (ld1 h t6) fun t7 =>
 bq (ia 3 t7 (Value.int .i64 0)) fun t8 =>
 bq (ldN 3 h t8) fun t9 =>
 (fun t3 h =>
 bq (stN 3 h t3 t9) fun h=>(fun _ h =>
 let t10:Value:=t0
 let t11:Value:=t0
 bq (nilV Tryz.prog t11) fun t12 =>
 bq (fa 0 1 t12) fun t13 =>
 bq (ld1 h t13) fun t14 =>
 bq (sliceV Tryz.prog h 49 t14 (some (Value.int .i64 1)) none) fun t15 =>
 bq (nilV Tryz.prog t10) fun t16 =>
 bq (fa 0 1 t16) fun t17 =>
 bq (stN 1 h t17 t15) fun h=>(fun _ h =>
 bq (ldN 3 h t3) fun t18 =>
 bq (stN 3 h t2 t18) fun h=>(fun _ h =>
 bq (seqO [ldN 3 h t2]) fun vs=>Q (.ret (oneOf vs)) h) undef h) undef h) undef h) (opNew h 55 #[(Value.int .i64 0),(Value.int .i64 0),(Value.string (ByteArray.mk #[]))]).1 (opNew h 55 #[(Value.int .i64 0),(Value.int .i64 0),(Value.string (ByteArray.mk #[]))]).2) (opNew h 55 #[(Value.int .i64 0),(Value.int .i64 0),(Value.string (ByteArray.mk #[]))]).1 (opNew h 55 #[(Value.int .i64 0),(Value.int .i64 0),(Value.string (ByteArray.mk #[]))]).2
theorem X31_eq (t0:Value) (h:AH) (Q:RQ):X31 t0 h Q=wpC Tryz.prog L31 code31 (argA [t0] Tryz.f31.ntmps) h (retK Tryz.prog res31 Q):=by kernel_rfl
theorem X31_body:Tryz.f31.body=some code31:=by kernel_rfl
theorem X31_ok {t0:Value} {h:AH} {Q:RQ} (H:X31 t0 h Q):HC Tryz.prog 31 [t0].toArray h Q:=HC.body Tryz.func31 X31_body ((X31_eq t0 h Q).mp H)
noncomputable def code28:Code:=match Tryz.f28.body with | some c=>c | none=>.skip
noncomputable def res28:List ResultVar:=Tryz.f28.results.toList
def L28:Nat→Option (List Nat):=fun r=>if r=2 then some [0] else none
noncomputable def J28_2 (t0:Value) (h:AH) (Q:RQ):Prop:=wpC Tryz.prog L28 (cAt code28 [.r]) (mkA 18 [(0,t0)]) h (ctxAt Tryz.prog L28 code28 [.r] (retK Tryz.prog res28 Q))
noncomputable def K28_2 (t0:Value) (h:AH) (Q:RQ):Prop:=(ctxAt Tryz.prog L28 code28 [.l] (retK Tryz.prog res28 Q)) .normal (mkA 18 [(0,t0)]) h
theorem K28_2_eq (t0:Value) (h:AH) (Q:RQ):J28_2 t0 h Q=K28_2 t0 h Q:=join_eq (p:=[]) (code:=code28) (by kernel_rfl) (by kernel_rfl)
noncomputable def X28_2 (t0:Value) (h:AH) (Q:RQ):Prop :=
 let t16:Value:=t0
 HC Tryz.prog 31 (([]:List Value)++[t16]++([]:List Value)).toArray h (resK (fun t17 h =>
 Q (.ret (.tuple [].toArray)) h) (fun v h=>Q (.pan v) h))
theorem X28_2_eq (t0:Value) (h:AH) (Q:RQ):X28_2 t0 h Q=wpC Tryz.prog L28 (cAt code28 [.r]) (mkA 18 [(0,t0)]) h (ctxAt Tryz.prog L28 code28 [.r] (retK Tryz.prog res28 Q)):=by kernel_rfl
theorem X28_2_ok {t0:Value} {h:AH} {Q:RQ} (H:X28_2 t0 h Q):K28_2 t0 h Q:=(K28_2_eq t0 h Q).mp (((X28_2_eq t0 h Q).mp H))
noncomputable def X28 (t0 t1 t2:Value) (h:AH) (Q:RQ):Prop :=
 let t6:Value:=t0
 let t7:Value:=t1
 let t8:Value:=t2
 HC Tryz.prog 30 (([]:List Value)++[t6,t7,t8]++([]:List Value)).toArray h (resK (fun t9 h =>
 bq (unV Tryz.prog .not t9) fun t10 =>
 condP (some t10)
 (let t11:Value:=t0
 let t12:Value:=t0
 HC Tryz.prog 47 (([]:List Value)++[t12]++([]:List Value)).toArray h (resK (fun t13 h =>
 bq (fd1 1 t13) fun t14 =>
 HC Tryz.prog 46 (([]:List Value)++[t11,(Value.int .i64 161),t14]++([]:List Value)).toArray h (resK (fun t15 h =>
 K28_2 t0 h Q) (fun v h=>Q (.pan v) h))) (fun v h=>Q (.pan v) h)))
 (K28_2 t0 h Q)) (fun v h=>Q (.pan v) h))
theorem X28_eq (t0 t1 t2:Value) (h:AH) (Q:RQ):X28 t0 t1 t2 h Q=wpC Tryz.prog L28 code28 (argA [t0,t1,t2] Tryz.f28.ntmps) h (retK Tryz.prog res28 Q):=by kernel_rfl
theorem X28_body:Tryz.f28.body=some code28:=by kernel_rfl
theorem X28_ok {t0 t1 t2:Value} {h:AH} {Q:RQ} (H:X28 t0 t1 t2 h Q):HC Tryz.prog 28 [t0,t1,t2].toArray h Q:=HC.body Tryz.func28 X28_body ((X28_eq t0 t1 t2 h Q).mp H)
noncomputable def code46:Code:=match Tryz.f46.body with | some c=>c | none=>.skip
noncomputable def res46:List ResultVar:=Tryz.f46.results.toList
def L46:Nat→Option (List Nat):=fun r=>none
noncomputable def X46 (t0 t1 t2:Value) (h:AH) (Q:RQ):Prop :=
 let t6:Value:=t1
 let t7:Value:=t2
 bq (bd #[(Value.int .i64 0),(Value.int .i64 0)] [(0,1,t6),(1,1,t7)]) fun t8 =>
 bq (mi 25 t8) fun t9 =>
 panicP t9 h (fun v h=>Q (.pan v) h)
theorem X46_eq (t0 t1 t2:Value) (h:AH) (Q:RQ):X46 t0 t1 t2 h Q=wpC Tryz.prog L46 code46 (argA [t0,t1,t2] Tryz.f46.ntmps) h (retK Tryz.prog res46 Q):=by kernel_rfl
theorem X46_body:Tryz.f46.body=some code46:=by kernel_rfl
theorem X46_ok {t0 t1 t2:Value} {h:AH} {Q:RQ} (H:X46 t0 t1 t2 h Q):HC Tryz.prog 46 [t0,t1,t2].toArray h Q:=HC.body Tryz.func46 X46_body ((X46_eq t0 t1 t2 h Q).mp H)
noncomputable def code61:Code:=match Tryz.f61.body with | some c=>c | none=>.skip
noncomputable def res61:List ResultVar:=Tryz.f61.results.toList
def L61:Nat→Option (List Nat):=fun r=>if r=4 then some [0,2] else none
noncomputable def J61_4 (t0 t2:Value) (h:AH) (Q:RQ):Prop:=wpC Tryz.prog L61 (cAt code61 [.r,.r,.r]) (mkA 22 [(0,t0),(2,t2)]) h (ctxAt Tryz.prog L61 code61 [.r,.r,.r] (retK Tryz.prog res61 Q))
noncomputable def K61_4 (t0 t2:Value) (h:AH) (Q:RQ):Prop:=(ctxAt Tryz.prog L61 code61 [.r,.r,.l] (retK Tryz.prog res61 Q)) .normal (mkA 22 [(0,t0),(2,t2)]) h
theorem K61_4_eq (t0 t2:Value) (h:AH) (Q:RQ):J61_4 t0 t2 h Q=K61_4 t0 t2 h Q:=join_eq (p:=[.r,.r]) (code:=code61) (by kernel_rfl) (by kernel_rfl)
noncomputable def X61_4 (t0 t2:Value) (h:AH) (Q:RQ):Prop :=
 let t20:Value:=t0
 HC Tryz.prog 31 (([]:List Value)++[t20]++([]:List Value)).toArray h (resK (fun t21 h =>
 bq (stN 3 h t2 t21) fun h=>(fun _ h =>
 bq (seqO [ldN 3 h t2]) fun vs=>Q (.ret (oneOf vs)) h) undef h) (fun v h=>Q (.pan v) h))
theorem X61_4_eq (t0 t2:Value) (h:AH) (Q:RQ):X61_4 t0 t2 h Q=wpC Tryz.prog L61 (cAt code61 [.r,.r,.r]) (mkA 22 [(0,t0),(2,t2)]) h (ctxAt Tryz.prog L61 code61 [.r,.r,.r] (retK Tryz.prog res61 Q)):=by kernel_rfl
theorem X61_4_ok {t0 t2:Value} {h:AH} {Q:RQ} (H:X61_4 t0 t2 h Q):K61_4 t0 t2 h Q:=(K61_4_eq t0 t2 h Q).mp (((X61_4_eq t0 t2 h Q).mp H))
noncomputable def X61 (t0:Value) (h:AH) (Q:RQ):Prop :=
 (fun t2 h =>
 let t4:Value:=t0
 HC Tryz.prog 47 (([]:List Value)++[t4]++([]:List Value)).toArray h (resK (fun t5 h =>
 (fun t3 h =>
 bq (stN 3 h t3 t5) fun h=>(fun _ h =>
 bq (fa 0 1 t3) fun t6 =>
 bq (ld1 h t6) fun t7 =>
 bq (binV Tryz.prog .neq 53 (.tmp 7) (.const (Value.int .i64 1)) t7 (Value.int .i64 1) h) fun t8 =>
 let t9:Value:=t8
 guardQ t9 false h (fun k=>bq (fa 2 1 t3) fun v=>k v h) fun t10 h =>
 guardQ t9 false h (fun k=>bq (ld1 h t10) fun v=>k v h) fun t11 h =>
 guardQ t9 false h (fun k=>bq (binV Tryz.prog .add 9 (.const (Value.string (ByteArray.mk #[32]))) (.tmp 11) (Value.string (ByteArray.mk #[32])) t11 h) fun v=>k v h) fun t12 h =>
 guardQ t9 false h (fun k=>bq (binV Tryz.prog .add 9 (.tmp 12) (.const (Value.string (ByteArray.mk #[32]))) t12 (Value.string (ByteArray.mk #[32])) h) fun v=>k v h) fun t13 h =>
 guardQ t9 false h (fun k=>HC Tryz.prog 76 (([]:List Value)++[(Value.string (ByteArray.mk #[32,109,97,112,32,99,111,109,98,105,110,101,32,114,101,100,117,99,101,32,112,97,114,116,32,101,109,105,116,32,108,101,116,32,105,102,32,101,108,115,101,32,101,97,99,104,32,105,110,32,98,121,32,102,111,114,32])),t13]++([]:List Value)).toArray h (resK k (fun v h=>Q (.pan v) h))) fun t14 h =>
 bq (pickV t9 (Value.bool true) t14) fun t15 =>
 condP (some t15)
 (let t16:Value:=t0
 bq (fa 1 1 t3) fun t17 =>
 bq (ld1 h t17) fun t18 =>
 HC Tryz.prog 46 (([]:List Value)++[t16,(Value.int .i64 161),t18]++([]:List Value)).toArray h (resK (fun t19 h =>
 K61_4 t0 t2 h Q) (fun v h=>Q (.pan v) h)))
 (K61_4 t0 t2 h Q)) undef h) (opNew h 55 #[(Value.int .i64 0),(Value.int .i64 0),(Value.string (ByteArray.mk #[]))]).1 (opNew h 55 #[(Value.int .i64 0),(Value.int .i64 0),(Value.string (ByteArray.mk #[]))]).2) (fun v h=>Q (.pan v) h))) (opNew h 55 #[(Value.int .i64 0),(Value.int .i64 0),(Value.string (ByteArray.mk #[]))]).1 (opNew h 55 #[(Value.int .i64 0),(Value.int .i64 0),(Value.string (ByteArray.mk #[]))]).2
theorem X61_eq (t0:Value) (h:AH) (Q:RQ):X61 t0 h Q=wpC Tryz.prog L61 code61 (argA [t0] Tryz.f61.ntmps) h (retK Tryz.prog res61 Q):=by kernel_rfl
theorem X61_body:Tryz.f61.body=some code61:=by kernel_rfl
theorem X61_ok {t0:Value} {h:AH} {Q:RQ} (H:X61 t0 h Q):HC Tryz.prog 61 [t0].toArray h Q:=HC.body Tryz.func61 X61_body ((X61_eq t0 h Q).mp H)
noncomputable def code63:Code:=match Tryz.f63.body with | some c=>c | none=>.skip
noncomputable def res63:List ResultVar:=Tryz.f63.results.toList
def L63:Nat→Option (List Nat):=fun r=>if r=2 then some [1,11,12,13] else none
noncomputable def H63_2 (t1 t11 t12 t13:Value) (h:AH) (Q:RQ):Prop:=HL Tryz.prog (cAt code63 [.r,.l,.r,.i,.i]) (mkA 24 [(1,t1),(11,t11),(12,t12),(13,t13)]) h (ctxAt Tryz.prog L63 code63 [.r,.l,.r,.i] (retK Tryz.prog res63 Q))
noncomputable def X63_2 (t1 t11 t12 t13:Value) (h:AH) (Q:RQ):Prop :=
 bq (binV Tryz.prog .lss 3 (.tmp 13) (.tmp 12) t13 t12 h) fun t14 =>
 condP (some t14)
 (bq (ia 2 t11 t13) fun t15 =>
 bq (ldN 2 h t15) fun t16 =>
 (fun t7 h =>
 bq (stN 2 h t7 t16) fun h=>(fun _ h =>
 bq (fa 0 1 t7) fun t17 =>
 bq (ld1 h t17) fun t18 =>
 let t19:Value:=t1
 bq (binV Tryz.prog .eql 9 (.tmp 18) (.tmp 19) t18 t19 h) fun t20 =>
 condP (some t20)
 (bq (fa 1 1 t7) fun t21 =>
 bq (ld1 h t21) fun t22 =>
 let t4:Value:=t22
 let t5:Value:=(Value.bool true)
 Q (.ret (.tuple [t4,t5].toArray)) h)
 (bq (binV Tryz.prog .add 3 (.tmp 13) (.const (Value.int .i64 1)) t13 (Value.int .i64 1) h) fun t23 =>
 let t13:Value:=t23
 H63_2 t1 t11 t12 t13 h Q)) undef h) (opNew h 86 #[(Value.string (ByteArray.mk #[])),(Value.int .u8 0)]).1 (opNew h 86 #[(Value.string (ByteArray.mk #[])),(Value.int .u8 0)]).2)
 (let t4:Value:=(Value.int .u8 0)
 let t5:Value:=(Value.bool false)
 Q (.ret (.tuple [t4,t5].toArray)) h)
theorem X63_2_eq (t1 t11 t12 t13:Value) (h:AH) (Q:RQ):X63_2 t1 t11 t12 t13 h Q=wpC Tryz.prog L63 (cAt code63 [.r,.l,.r,.i,.i]) (mkA 24 [(1,t1),(11,t11),(12,t12),(13,t13)]) h (ctxAt Tryz.prog L63 code63 [.r,.l,.r,.i,.i] (retK Tryz.prog res63 Q)):=by kernel_rfl
theorem X63_2_ok {t1 t11 t12 t13:Value} {h:AH} {Q:RQ} (H:X63_2 t1 t11 t12 t13 h Q):H63_2 t1 t11 t12 t13 h Q:=HL.step (L:=L63) ((X63_2_eq t1 t11 t12 t13 h Q).mp H)
noncomputable def X63 (t0 t1:Value) (h:AH) (Q:RQ):Prop :=
 let t4:Value:=(Value.int .u8 0)
 let t5:Value:=(Value.bool false)
 let t8:Value:=t0
 bq (nilV Tryz.prog t8) fun t9 =>
 bq (fa 1 1 t9) fun t10 =>
 bq (ld1 h t10) fun t11 =>
 bq (lenL t11) fun t12 =>
 let t13:Value:=(Value.int .i64 0)
 H63_2 t1 t11 t12 t13 h Q
theorem X63_eq (t0 t1:Value) (h:AH) (Q:RQ):X63 t0 t1 h Q=wpC Tryz.prog L63 code63 (argA [t0,t1] Tryz.f63.ntmps) h (retK Tryz.prog res63 Q):=by kernel_rfl
theorem X63_body:Tryz.f63.body=some code63:=by kernel_rfl
theorem X63_ok {t0 t1:Value} {h:AH} {Q:RQ} (H:X63 t0 t1 h Q):HC Tryz.prog 63 [t0,t1].toArray h Q:=HC.body Tryz.func63 X63_body ((X63_eq t0 t1 h Q).mp H)
noncomputable def code59:Code:=match Tryz.f59.body with | some c=>c | none=>.skip
noncomputable def res59:List ResultVar:=Tryz.f59.results.toList
def L59:Nat→Option (List Nat):=fun r=>if r=5 then some [3] else none
noncomputable def J59_5 (t3:Value) (h:AH) (Q:RQ):Prop:=wpC Tryz.prog L59 (cAt code59 [.r,.r,.r]) (mkA 22 [(3,t3)]) h (ctxAt Tryz.prog L59 code59 [.r,.r,.r] (retK Tryz.prog res59 Q))
noncomputable def K59_5 (t3:Value) (h:AH) (Q:RQ):Prop:=(ctxAt Tryz.prog L59 code59 [.r,.r,.l] (retK Tryz.prog res59 Q)) .normal (mkA 22 [(3,t3)]) h
theorem K59_5_eq (t3:Value) (h:AH) (Q:RQ):J59_5 t3 h Q=K59_5 t3 h Q:=join_eq (p:=[.r,.r]) (code:=code59) (by kernel_rfl) (by kernel_rfl)
noncomputable def X59_5 (t3:Value) (h:AH) (Q:RQ):Prop :=
 bq (fa 2 1 t3) fun t20 =>
 bq (ld1 h t20) fun t21 =>
 let t2:Value:=t21
 Q (.ret t2) h
theorem X59_5_eq (t3:Value) (h:AH) (Q:RQ):X59_5 t3 h Q=wpC Tryz.prog L59 (cAt code59 [.r,.r,.r]) (mkA 22 [(3,t3)]) h (ctxAt Tryz.prog L59 code59 [.r,.r,.r] (retK Tryz.prog res59 Q)):=by kernel_rfl
theorem X59_5_ok {t3:Value} {h:AH} {Q:RQ} (H:X59_5 t3 h Q):K59_5 t3 h Q:=(K59_5_eq t3 h Q).mp (((X59_5_eq t3 h Q).mp H))
noncomputable def X59 (t0:Value) (h:AH) (Q:RQ):Prop :=
 let t2:Value:=(Value.string (ByteArray.mk #[]))
 let t6:Value:=t0
 HC Tryz.prog 61 (([]:List Value)++[t6]++([]:List Value)).toArray h (resK (fun t7 h =>
 (fun t3 h =>
 bq (stN 3 h t3 t7) fun h=>(fun _ h =>
 let t9:Value:=t0
 bq (fa 2 1 t3) fun t10 =>
 bq (ld1 h t10) fun t11 =>
 HC Tryz.prog 63 (([]:List Value)++[t9,t11]++([]:List Value)).toArray h (resK (fun t12 h =>
 let t8:Value:=t12
 bq (opExtract t8 0) fun t13 =>
 bq (opExtract t8 1) fun t14 =>
 let t4:Value:=t13
 let t5:Value:=t14
 let t15:Value:=t5
 condP (some t15)
 (let t16:Value:=t0
 bq (fa 1 1 t3) fun t17 =>
 bq (ld1 h t17) fun t18 =>
 HC Tryz.prog 46 (([]:List Value)++[t16,(Value.int .i64 162),t18]++([]:List Value)).toArray h (resK (fun t19 h =>
 K59_5 t3 h Q) (fun v h=>Q (.pan v) h)))
 (K59_5 t3 h Q)) (fun v h=>Q (.pan v) h))) undef h) (opNew h 55 #[(Value.int .i64 0),(Value.int .i64 0),(Value.string (ByteArray.mk #[]))]).1 (opNew h 55 #[(Value.int .i64 0),(Value.int .i64 0),(Value.string (ByteArray.mk #[]))]).2) (fun v h=>Q (.pan v) h))
theorem X59_eq (t0:Value) (h:AH) (Q:RQ):X59 t0 h Q=wpC Tryz.prog L59 code59 (argA [t0] Tryz.f59.ntmps) h (retK Tryz.prog res59 Q):=by kernel_rfl
theorem X59_body:Tryz.f59.body=some code59:=by kernel_rfl
theorem X59_ok {t0:Value} {h:AH} {Q:RQ} (H:X59 t0 h Q):HC Tryz.prog 59 [t0].toArray h Q:=HC.body Tryz.func59 X59_body ((X59_eq t0 h Q).mp H)
noncomputable def code32:Code:=match Tryz.f32.body with | some c=>c | none=>.skip
noncomputable def res32:List ResultVar:=Tryz.f32.results.toList
def L32:Nat→Option (List Nat):=fun r=>if r=4 then some [4,5] else none
noncomputable def J32_4 (t4 t5:Value) (h:AH) (Q:RQ):Prop:=wpC Tryz.prog L32 (cAt code32 [.r,.r,.r]) (mkA 20 [(4,t4),(5,t5)]) h (ctxAt Tryz.prog L32 code32 [.r,.r,.r] (retK Tryz.prog res32 Q))
noncomputable def K32_4 (t4 t5:Value) (h:AH) (Q:RQ):Prop:=(ctxAt Tryz.prog L32 code32 [.r,.r,.l] (retK Tryz.prog res32 Q)) .normal (mkA 20 [(4,t4),(5,t5)]) h
theorem K32_4_eq (t4 t5:Value) (h:AH) (Q:RQ):J32_4 t4 t5 h Q=K32_4 t4 t5 h Q:=join_eq (p:=[.r,.r]) (code:=code32) (by kernel_rfl) (by kernel_rfl)
noncomputable def X32_4 (t4 t5:Value) (h:AH) (Q:RQ):Prop :=
 bq (ldN 5 h t5) fun t19 =>
 bq (stN 5 h t4 t19) fun h=>(fun _ h =>
 bq (seqO [ldN 5 h t4]) fun vs=>Q (.ret (oneOf vs)) h) undef h
theorem X32_4_eq (t4 t5:Value) (h:AH) (Q:RQ):X32_4 t4 t5 h Q=wpC Tryz.prog L32 (cAt code32 [.r,.r,.r]) (mkA 20 [(4,t4),(5,t5)]) h (ctxAt Tryz.prog L32 code32 [.r,.r,.r] (retK Tryz.prog res32 Q)):=by kernel_rfl
theorem X32_4_ok {t4 t5:Value} {h:AH} {Q:RQ} (H:X32_4 t4 t5 h Q):K32_4 t4 t5 h Q:=(K32_4_eq t4 t5 h Q).mp (((X32_4_eq t4 t5 h Q).mp H))
noncomputable def X32 (t0 t1:Value) (h:AH) (Q:RQ):Prop :=
 (fun t4 h =>
 let t8:Value:=t0
 HC Tryz.prog 49 (([]:List Value)++[t8]++([]:List Value)).toArray h (resK (fun t9 h =>
 let t7:Value:=t9
 bq (opExtract t7 0) fun t10 =>
 bq (opExtract t7 1) fun t11 =>
 (fun t5 h =>
 bq (stN 5 h t5 t10) fun h=>(fun _ h =>
 let t6:Value:=t11
 let t12:Value:=t6
 let t13:Value:=t1
 bq (binV Tryz.prog .neq 5 (.tmp 12) (.tmp 13) t12 t13 h) fun t14 =>
 condP (some t14)
 (let t15:Value:=t0
 bq (fa 1 1 t5) fun t16 =>
 bq (ld1 h t16) fun t17 =>
 HC Tryz.prog 46 (([]:List Value)++[t15,(Value.int .i64 163),t17]++([]:List Value)).toArray h (resK (fun t18 h =>
 K32_4 t4 t5 h Q) (fun v h=>Q (.pan v) h)))
 (K32_4 t4 t5 h Q)) undef h) (opNew h 64 #[(Value.string (ByteArray.mk #[])),(Value.int .i64 0),(Value.int .i64 0),(Value.string (ByteArray.mk #[])),(Value.slice none 0 0)]).1 (opNew h 64 #[(Value.string (ByteArray.mk #[])),(Value.int .i64 0),(Value.int .i64 0),(Value.string (ByteArray.mk #[])),(Value.slice none 0 0)]).2) (fun v h=>Q (.pan v) h))) (opNew h 64 #[(Value.string (ByteArray.mk #[])),(Value.int .i64 0),(Value.int .i64 0),(Value.string (ByteArray.mk #[])),(Value.slice none 0 0)]).1 (opNew h 64 #[(Value.string (ByteArray.mk #[])),(Value.int .i64 0),(Value.int .i64 0),(Value.string (ByteArray.mk #[])),(Value.slice none 0 0)]).2
theorem X32_eq (t0 t1:Value) (h:AH) (Q:RQ):X32 t0 t1 h Q=wpC Tryz.prog L32 code32 (argA [t0,t1] Tryz.f32.ntmps) h (retK Tryz.prog res32 Q):=by kernel_rfl
theorem X32_body:Tryz.f32.body=some code32:=by kernel_rfl
theorem X32_ok {t0 t1:Value} {h:AH} {Q:RQ} (H:X32 t0 t1 h Q):HC Tryz.prog 32 [t0,t1].toArray h Q:=HC.body Tryz.func32 X32_body ((X32_eq t0 t1 h Q).mp H)
noncomputable def code62:Code:=match Tryz.f62.body with | some c=>c | none=>.skip
noncomputable def res62:List ResultVar:=Tryz.f62.results.toList
def L62:Nat→Option (List Nat):=fun r=>if r=3 then some [2,3,4] else if r=9 then some [2,3,4,6] else if r=11 then some [2,4,6,8,49,50] else if r=15 then some [2,4,6,8,9,49,50] else none
noncomputable def J62_3 (t2 t3 t4:Value) (D:List Value) (h:AH) (Q:RQ):Prop:=wpC Tryz.prog L62 (cAt code62 [.r,.r]) (mkD 75 D [(2,t2),(3,t3),(4,t4)]) h (ctxAt Tryz.prog L62 code62 [.r,.r] (retD Tryz.prog res62 Q))
noncomputable def K62_3 (t2 t3 t4:Value) (D:List Value) (h:AH) (Q:RQ):Prop:=(ctxAt Tryz.prog L62 code62 [.r,.l] (retD Tryz.prog res62 Q)) .normal (mkD 75 D [(2,t2),(3,t3),(4,t4)]) h
theorem K62_3_eq (t2 t3 t4:Value) (D:List Value) (h:AH) (Q:RQ):J62_3 t2 t3 t4 D h Q=K62_3 t2 t3 t4 D h Q:=join_eq (p:=[.r]) (code:=code62) (by kernel_rfl) (by kernel_rfl)
noncomputable def J62_9 (t2 t3 t4 t6:Value) (D:List Value) (h:AH) (Q:RQ):Prop:=wpC Tryz.prog L62 (cAt code62 [.r,.r,.r,.r,.r,.r,.r]) (mkD 75 D [(2,t2),(3,t3),(4,t4),(6,t6)]) h (ctxAt Tryz.prog L62 code62 [.r,.r,.r,.r,.r,.r,.r] (retD Tryz.prog res62 Q))
noncomputable def K62_9 (t2 t3 t4 t6:Value) (D:List Value) (h:AH) (Q:RQ):Prop:=(ctxAt Tryz.prog L62 code62 [.r,.r,.r,.r,.r,.r,.l] (retD Tryz.prog res62 Q)) .normal (mkD 75 D [(2,t2),(3,t3),(4,t4),(6,t6)]) h
theorem K62_9_eq (t2 t3 t4 t6:Value) (D:List Value) (h:AH) (Q:RQ):J62_9 t2 t3 t4 t6 D h Q=K62_9 t2 t3 t4 t6 D h Q:=join_eq (p:=[.r,.r,.r,.r,.r,.r]) (code:=code62) (by kernel_rfl) (by kernel_rfl)
noncomputable def H62_11 (t2 t4 t6 t8 t49 t50:Value) (D:List Value) (h:AH) (Q:RQ):Prop:=HL Tryz.prog (cAt code62 [.r,.r,.r,.r,.r,.r,.r,.r,.l,.r,.i,.i]) (mkD 75 D [(2,t2),(4,t4),(6,t6),(8,t8),(49,t49),(50,t50)]) h (ctxAt Tryz.prog L62 code62 [.r,.r,.r,.r,.r,.r,.r,.r,.l,.r,.i] (retD Tryz.prog res62 Q))
noncomputable def J62_15 (t2 t4 t6 t8 t9 t49 t50:Value) (D:List Value) (h:AH) (Q:RQ):Prop:=wpC Tryz.prog L62 (cAt code62 (.r::.r::.r::.r::.r::.r::.r::.r::Dir.l::.r::Dir.i::Dir.i::.r::.r::Dir.l::Dir.i::.r::.r::[])) (mkD 75 D [(2,t2),(4,t4),(6,t6),(8,t8),(9,t9),(49,t49),(50,t50)]) h (ctxAt Tryz.prog L62 code62 (.r::.r::.r::.r::.r::.r::.r::.r::Dir.l::.r::Dir.i::Dir.i::.r::.r::Dir.l::Dir.i::.r::.r::[]) (retD Tryz.prog res62 Q))
noncomputable def K62_15 (t2 t4 t6 t8 t9 t49 t50:Value) (D:List Value) (h:AH) (Q:RQ):Prop:=(ctxAt Tryz.prog L62 code62 (.r::.r::.r::.r::.r::.r::.r::.r::Dir.l::.r::Dir.i::Dir.i::.r::.r::Dir.l::Dir.i::.r::Dir.l::[]) (retD Tryz.prog res62 Q)) .normal (mkD 75 D [(2,t2),(4,t4),(6,t6),(8,t8),(9,t9),(49,t49),(50,t50)]) h
theorem K62_15_eq (t2 t4 t6 t8 t9 t49 t50:Value) (D:List Value) (h:AH) (Q:RQ):J62_15 t2 t4 t6 t8 t9 t49 t50 D h Q=K62_15 t2 t4 t6 t8 t9 t49 t50 D h Q:=join_eq (p:=(.r::.r::.r::.r::.r::.r::.r::.r::Dir.l::.r::Dir.i::Dir.i::.r::.r::Dir.l::Dir.i::.r::[])) (code:=code62) (by kernel_rfl) (by kernel_rfl)
noncomputable def X62_15 (t2 t4 t6 t8 t9 t49 t50:Value) (D:List Value) (h:AH) (Q:RQ):Prop :=
 bq (fa 4 1 t8) fun t57 =>
 bq (ld1 h t57) fun t58 =>
 bq (ld1 h t2) fun t59 =>
 bq (fa 1 1 t6) fun t60 =>
 bq (ld1 h t60) fun t61 =>
 let t62:Value:=t9
 bq (ixS t61 t62) fun t63 =>
 HC Tryz.prog 32 (([]:List Value)++[t59,t63]++([]:List Value)).toArray h (resK (fun t64 h =>
 ((bq (ld1 h t57) fun u=>(u=t58))∧(True)) ∧
 bq (bs 64 #[(Value.string (ByteArray.mk #[])),(Value.int .i64 0),(Value.int .i64 0),(Value.string (ByteArray.mk #[])),(Value.slice none 0 0)] 1 h [(0,5,t64)]) fun r=>(fun t65 h =>
 ((bq (ld1 h t57) fun u=>(u=t58))∧(True)) ∧
 bq (apT 64 5 72 (some (Value.agg #[(Value.string (ByteArray.mk #[])),(Value.int .i64 0),(Value.int .i64 0),(Value.string (ByteArray.mk #[])),(Value.slice none 0 0)])) h t58 t65) fun r=>(fun t66 h =>
 (True) ∧
 bq (fa 4 1 t8) fun t67 =>
 bq (stN 1 h t67 t66) fun h=>(fun q15_11 h =>
 (True) ∧
 bq (binV Tryz.prog .add 3 (.tmp 50) (.const (Value.int .i64 1)) t50 (Value.int .i64 1) h) fun t68 =>
 let t50:Value:=t68
 H62_11 t2 t4 t6 t8 t49 t50 D h Q) undef h) r.1 r.2) r.1 r.2) (fun v h=>panD Tryz.prog res62 Q D [some t4,none] v h))
theorem X62_15_eq (t2 t4 t6 t8 t9 t49 t50:Value) (D:List Value) (h:AH) (Q:RQ):X62_15 t2 t4 t6 t8 t9 t49 t50 D h Q=wpC Tryz.prog L62 (cAt code62 (.r::.r::.r::.r::.r::.r::.r::.r::Dir.l::.r::Dir.i::Dir.i::.r::.r::Dir.l::Dir.i::.r::.r::[])) (mkD 75 D [(2,t2),(4,t4),(6,t6),(8,t8),(9,t9),(49,t49),(50,t50)]) h (ctxAt Tryz.prog L62 code62 (.r::.r::.r::.r::.r::.r::.r::.r::Dir.l::.r::Dir.i::Dir.i::.r::.r::Dir.l::Dir.i::.r::.r::[]) (retD Tryz.prog res62 Q)):=by kernel_rfl
theorem X62_15_ok {t2 t4 t6 t8 t9 t49 t50:Value} {D:List Value} {h:AH} {Q:RQ} (H:X62_15 t2 t4 t6 t8 t9 t49 t50 D h Q):K62_15 t2 t4 t6 t8 t9 t49 t50 D h Q:=(K62_15_eq t2 t4 t6 t8 t9 t49 t50 D h Q).mp (((X62_15_eq t2 t4 t6 t8 t9 t49 t50 D h Q).mp H))
noncomputable def X62_11 (t2 t4 t6 t8 t49 t50:Value) (D:List Value) (h:AH) (Q:RQ):Prop :=
 bq (binV Tryz.prog .lss 3 (.tmp 50) (.tmp 49) t50 t49 h) fun t51 =>
 condP (some t51)
 (let t52:Value:=t50
 let t9:Value:=t52
 let t53:Value:=t9
 bq (binV Tryz.prog .gtr 3 (.tmp 53) (.const (Value.int .i64 0)) t53 (Value.int .i64 0) h) fun t54 =>
 condP (some t54)
 (bq (ld1 h t2) fun t55 =>
 HC Tryz.prog 28 (([]:List Value)++[t55,(Value.int .i64 4),(Value.string (ByteArray.mk #[44]))]++([]:List Value)).toArray h (resK (fun t56 h =>
 K62_15 t2 t4 t6 t8 t9 t49 t50 D h Q) (fun v h=>panD Tryz.prog res62 Q D [some t4,none] v h)))
 (K62_15 t2 t4 t6 t8 t9 t49 t50 D h Q))
 (bq (ld1 h t2) fun t69 =>
 HC Tryz.prog 28 (([]:List Value)++[t69,(Value.int .i64 4),(Value.string (ByteArray.mk #[41]))]++([]:List Value)).toArray h (resK (fun t70 h =>
 bq (ldN 5 h t8) fun t71 =>
 bq (fa 2 1 t6) fun t72 =>
 bq (ld1 h t72) fun t73 =>
 bq (ixS t73 (Value.int .i64 0)) fun t74 =>
 bq (stN 5 h t4 t71) fun h=>(fun q18_4 h =>
 ((bq (ld1 h t72) fun u=>(u=t73))∧(True)) ∧
 let t5:Value:=t74
 retV Tryz.prog res62 Q D [some t4,some t5] h) undef h) (fun v h=>panD Tryz.prog res62 Q D [some t4,none] v h)))
theorem X62_11_eq (t2 t4 t6 t8 t49 t50:Value) (D:List Value) (h:AH) (Q:RQ):X62_11 t2 t4 t6 t8 t49 t50 D h Q=wpC Tryz.prog L62 (cAt code62 [.r,.r,.r,.r,.r,.r,.r,.r,.l,.r,.i,.i]) (mkD 75 D [(2,t2),(4,t4),(6,t6),(8,t8),(49,t49),(50,t50)]) h (ctxAt Tryz.prog L62 code62 [.r,.r,.r,.r,.r,.r,.r,.r,.l,.r,.i,.i] (retD Tryz.prog res62 Q)):=by kernel_rfl
theorem X62_11_ok {t2 t4 t6 t8 t49 t50:Value} {D:List Value} {h:AH} {Q:RQ} (H:X62_11 t2 t4 t6 t8 t49 t50 D h Q):H62_11 t2 t4 t6 t8 t49 t50 D h Q:=HL.step (L:=L62) ((X62_11_eq t2 t4 t6 t8 t49 t50 D h Q).mp H)
noncomputable def X62_9 (t2 t3 t4 t6:Value) (D:List Value) (h:AH) (Q:RQ):Prop :=
 bq (fa 2 1 t3) fun t42 =>
 bq (ld1 h t42) fun t43 =>
 bq (fa 1 1 t3) fun t44 =>
 bq (ld1 h t44) fun t45 =>
 bq (bd #[(Value.string (ByteArray.mk #[])),(Value.int .i64 0),(Value.int .i64 0),(Value.string (ByteArray.mk #[])),(Value.slice none 0 0)] [(0,1,t43),(1,1,t45)]) fun t46 =>
 (fun t8 h =>
 bq (stN 5 h t8 t46) fun h=>(fun _ h =>
 bq (fa 1 1 t6) fun t47 =>
 bq (ld1 h t47) fun t48 =>
 bq (lenS t48) fun t49 =>
 let t50:Value:=(Value.int .i64 0)
 H62_11 t2 t4 t6 t8 t49 t50 D h Q) undef h) (opNew h 64 #[(Value.string (ByteArray.mk #[])),(Value.int .i64 0),(Value.int .i64 0),(Value.string (ByteArray.mk #[])),(Value.slice none 0 0)]).1 (opNew h 64 #[(Value.string (ByteArray.mk #[])),(Value.int .i64 0),(Value.int .i64 0),(Value.string (ByteArray.mk #[])),(Value.slice none 0 0)]).2
theorem X62_9_eq (t2 t3 t4 t6:Value) (D:List Value) (h:AH) (Q:RQ):X62_9 t2 t3 t4 t6 D h Q=wpC Tryz.prog L62 (cAt code62 [.r,.r,.r,.r,.r,.r,.r]) (mkD 75 D [(2,t2),(3,t3),(4,t4),(6,t6)]) h (ctxAt Tryz.prog L62 code62 [.r,.r,.r,.r,.r,.r,.r] (retD Tryz.prog res62 Q)):=by kernel_rfl
theorem X62_9_ok {t2 t3 t4 t6:Value} {D:List Value} {h:AH} {Q:RQ} (H:X62_9 t2 t3 t4 t6 D h Q):K62_9 t2 t3 t4 t6 D h Q:=(K62_9_eq t2 t3 t4 t6 D h Q).mp (((X62_9_eq t2 t3 t4 t6 D h Q).mp H))
noncomputable def X62_3 (t2 t3 t4:Value) (D:List Value) (h:AH) (Q:RQ):Prop :=
 bq (ld1 h t2) fun t20 =>
 bq (nilV Tryz.prog t20) fun t21 =>
 bq (fa 4 1 t21) fun t22 =>
 bq (ld1 h t22) fun t23 =>
 bq (binV Tryz.prog .add 3 (.tmp 23) (.const (Value.int .i64 1)) t23 (Value.int .i64 1) h) fun t24 =>
 bq (nilV Tryz.prog t20) fun t25 =>
 bq (fa 4 1 t25) fun t26 =>
 bq (stN 1 h t26 t24) fun h=>(fun _ h =>
 let t27:Value:=(Value.func (.func 77) [].toArray [t2].toArray)
 bq (deferV t27) fun dv4_1 =>
 bq (ld1 h t2) fun t28 =>
 HC Tryz.prog 28 (([]:List Value)++[t28,(Value.int .i64 4),(Value.string (ByteArray.mk #[40]))]++([]:List Value)).toArray h (resK (fun t29 h =>
 bq (fa 2 1 t3) fun t31 =>
 bq (ld1 h t31) fun t32 =>
 HC Tryz.prog 78 (([]:List Value)++[t32]++([]:List Value)).toArray h (resK (fun t33 h =>
 let t30:Value:=t33
 bq (opExtract t30 0) fun t34 =>
 bq (opExtract t30 1) fun t35 =>
 (fun t6 h =>
 bq (stN 3 h t6 t34) fun h=>(fun _ h =>
 let t7:Value:=t35
 let t36:Value:=t7
 bq (unV Tryz.prog .not t36) fun t37 =>
 condP (some t37)
 (bq (ld1 h t2) fun t38 =>
 bq (fa 1 1 t3) fun t39 =>
 bq (ld1 h t39) fun t40 =>
 HC Tryz.prog 46 (([]:List Value)++[t38,(Value.int .i64 162),t40]++([]:List Value)).toArray h (resK (fun t41 h =>
 K62_9 t2 t3 t4 t6 (dv4_1::D) h Q) (fun v h=>panD Tryz.prog res62 Q (dv4_1::D) [some t4,none] v h)))
 (K62_9 t2 t3 t4 t6 (dv4_1::D) h Q)) undef h) (opNew h 137 #[(Value.string (ByteArray.mk #[])),(Value.string (ByteArray.mk #[])),(Value.string (ByteArray.mk #[]))]).1 (opNew h 137 #[(Value.string (ByteArray.mk #[])),(Value.string (ByteArray.mk #[])),(Value.string (ByteArray.mk #[]))]).2) (fun v h=>panD Tryz.prog res62 Q (dv4_1::D) [some t4,none] v h))) (fun v h=>panD Tryz.prog res62 Q (dv4_1::D) [some t4,none] v h))) undef h
theorem X62_3_eq (t2 t3 t4:Value) (D:List Value) (h:AH) (Q:RQ):X62_3 t2 t3 t4 D h Q=wpC Tryz.prog L62 (cAt code62 [.r,.r]) (mkD 75 D [(2,t2),(3,t3),(4,t4)]) h (ctxAt Tryz.prog L62 code62 [.r,.r] (retD Tryz.prog res62 Q)):=by kernel_rfl
theorem X62_3_ok {t2 t3 t4:Value} {D:List Value} {h:AH} {Q:RQ} (H:X62_3 t2 t3 t4 D h Q):K62_3 t2 t3 t4 D h Q:=(K62_3_eq t2 t3 t4 D h Q).mp (((X62_3_eq t2 t3 t4 D h Q).mp H))
noncomputable def X62 (t0 t1:Value) (h:AH) (Q:RQ):Prop :=
 (fun t2 h =>
 (fun t3 h =>
 (fun t4 h =>
 let t5:Value:=(Value.int .u8 0)
 bq (ld1 h t2) fun t10 =>
 bq (nilV Tryz.prog t10) fun t11 =>
 bq (fa 4 1 t11) fun t12 =>
 bq (ld1 h t12) fun t13 =>
 bq (binV Tryz.prog .geq 3 (.tmp 13) (.const (Value.int .i64 8)) t13 (Value.int .i64 8) h) fun t14 =>
 condP (some t14)
 (bq (ld1 h t2) fun t15 =>
 bq (ld1 h t2) fun t16 =>
 HC Tryz.prog 47 (([]:List Value)++[t16]++([]:List Value)).toArray h (resK (fun t17 h =>
 ((bq (ld1 h t2) fun u=>(u=t15))∧(True)) ∧
 bq (fd1 1 t17) fun t18 =>
 HC Tryz.prog 46 (([]:List Value)++[t15,(Value.int .i64 164),t18]++([]:List Value)).toArray h (resK (fun t19 h =>
 (True) ∧
 K62_3 t2 t3 t4 ([]:List Value) h Q) (fun v h=>panD Tryz.prog res62 Q ([]:List Value) [some t4,some t5] v h))) (fun v h=>panD Tryz.prog res62 Q ([]:List Value) [some t4,some t5] v h)))
 (K62_3 t2 t3 t4 ([]:List Value) h Q)) (opNew h 64 #[(Value.string (ByteArray.mk #[])),(Value.int .i64 0),(Value.int .i64 0),(Value.string (ByteArray.mk #[])),(Value.slice none 0 0)]).1 (opNew h 64 #[(Value.string (ByteArray.mk #[])),(Value.int .i64 0),(Value.int .i64 0),(Value.string (ByteArray.mk #[])),(Value.slice none 0 0)]).2) (opNew h 55 t1.cells).1 (opNew h 55 t1.cells).2) (opNew h 52 t0.cells).1 (opNew h 52 t0.cells).2
theorem X62_eq (t0 t1:Value) (h:AH) (Q:RQ):X62 t0 t1 h Q=wpC Tryz.prog L62 code62 (argA [t0,t1] Tryz.f62.ntmps) h (retD Tryz.prog res62 Q):=by kernel_rfl
theorem X62_body:Tryz.f62.body=some code62:=by kernel_rfl
theorem X62_ok {t0 t1:Value} {h:AH} {Q:RQ} (H:X62 t0 t1 h Q):HC Tryz.prog 62 [t0,t1].toArray h Q:=HC.bodyD Tryz.func62 X62_body ((X62_eq t0 t1 h Q).mp H)
noncomputable def code49:Code:=match Tryz.f49.body with | some c=>c | none=>.skip
noncomputable def res49:List ResultVar:=Tryz.f49.results.toList
def L49:Nat→Option (List Nat):=fun r=>if r=16 then some [2,4,7] else none
noncomputable def J49_16 (t2 t4 t7:Value) (h:AH) (Q:RQ):Prop:=wpC Tryz.prog L49 (cAt code49 [.r,.r,.r,.r,.r,.r,.r]) (mkA 64 [(2,t2),(4,t4),(7,t7)]) h (ctxAt Tryz.prog L49 code49 [.r,.r,.r,.r,.r,.r,.r] (retK Tryz.prog res49 Q))
noncomputable def K49_16 (t2 t4 t7:Value) (h:AH) (Q:RQ):Prop:=(ctxAt Tryz.prog L49 code49 [.r,.r,.r,.r,.r,.r,.l] (retK Tryz.prog res49 Q)) .normal (mkA 64 [(2,t2),(4,t4),(7,t7)]) h
theorem K49_16_eq (t2 t4 t7:Value) (h:AH) (Q:RQ):J49_16 t2 t4 t7 h Q=K49_16 t2 t4 t7 h Q:=join_eq (p:=[.r,.r,.r,.r,.r,.r]) (code:=code49) (by kernel_rfl) (by kernel_rfl)
noncomputable def X49_16 (t2 t4 t7:Value) (h:AH) (Q:RQ):Prop :=
 bq (fa 1 1 t4) fun t58 =>
 bq (ld1 h t58) fun t59 =>
 bq (fa 2 1 t4) fun t60 =>
 bq (ld1 h t60) fun t61 =>
 bq (bd #[(Value.string (ByteArray.mk #[])),(Value.int .i64 0),(Value.int .i64 0),(Value.string (ByteArray.mk #[])),(Value.slice none 0 0)] [(0,1,(Value.string (ByteArray.mk #[118,97,114]))),(1,1,t59),(3,1,t61)]) fun t62 =>
 let t63:Value:=t7
 bq (stN 5 h t2 t62) fun h=>(fun _ h =>
 let t3:Value:=t63
 bq (seqO [ldN 5 h t2,some t3]) fun vs=>Q (.ret (oneOf vs)) h) undef h
theorem X49_16_eq (t2 t4 t7:Value) (h:AH) (Q:RQ):X49_16 t2 t4 t7 h Q=wpC Tryz.prog L49 (cAt code49 [.r,.r,.r,.r,.r,.r,.r]) (mkA 64 [(2,t2),(4,t4),(7,t7)]) h (ctxAt Tryz.prog L49 code49 [.r,.r,.r,.r,.r,.r,.r] (retK Tryz.prog res49 Q)):=by kernel_rfl
theorem X49_16_ok {t2 t4 t7:Value} {h:AH} {Q:RQ} (H:X49_16 t2 t4 t7 h Q):K49_16 t2 t4 t7 h Q:=(K49_16_eq t2 t4 t7 h Q).mp (((X49_16_eq t2 t4 t7 h Q).mp H))
noncomputable def X49 (t0:Value) (h:AH) (Q:RQ):Prop :=
 (fun t2 h =>
 let t3:Value:=(Value.int .u8 0)
 let t9:Value:=t0
 HC Tryz.prog 47 (([]:List Value)++[t9]++([]:List Value)).toArray h (resK (fun t10 h =>
 (fun t4 h =>
 bq (stN 3 h t4 t10) fun h=>(fun _ h =>
 bq (fa 0 1 t4) fun t11 =>
 bq (ld1 h t11) fun t12 =>
 bq (binV Tryz.prog .eql 53 (.tmp 12) (.const (Value.int .i64 2)) t12 (Value.int .i64 2) h) fun t14 =>
 let t13:Value:=t14
 condP (some t13)
 (let t15:Value:=t0
 HC Tryz.prog 31 (([]:List Value)++[t15]++([]:List Value)).toArray h (resK (fun t16 h =>
 bq (fa 2 1 t4) fun t18 =>
 bq (ld1 h t18) fun t19 =>
 HC Tryz.prog 60 (([]:List Value)++[t19]++([]:List Value)).toArray h (resK (fun t20 h =>
 let t17:Value:=t20
 bq (opExtract t17 0) fun t21 =>
 bq (opExtract t17 1) fun t22 =>
 let t5:Value:=t21
 let t6:Value:=t22
 bq (fa 1 1 t4) fun t23 =>
 bq (ld1 h t23) fun t24 =>
 let t25:Value:=t5
 bq (bd #[(Value.string (ByteArray.mk #[])),(Value.int .i64 0),(Value.int .i64 0),(Value.string (ByteArray.mk #[])),(Value.slice none 0 0)] [(0,1,(Value.string (ByteArray.mk #[110,117,109,98,101,114]))),(1,1,t24),(2,1,t25)]) fun t26 =>
 bq (stN 5 h t2 t26) fun h=>(fun _ h =>
 let t3:Value:=(Value.int .u8 110)
 bq (seqO [ldN 5 h t2,some t3]) fun vs=>Q (.ret (oneOf vs)) h) undef h) (fun v h=>Q (.pan v) h))) (fun v h=>Q (.pan v) h)))
 (bq (binV Tryz.prog .eql 53 (.tmp 12) (.const (Value.int .i64 3)) t12 (Value.int .i64 3) h) fun t28 =>
 let t27:Value:=t28
 condP (some t27)
 (let t29:Value:=t0
 HC Tryz.prog 31 (([]:List Value)++[t29]++([]:List Value)).toArray h (resK (fun t30 h =>
 bq (fa 1 1 t4) fun t31 =>
 bq (ld1 h t31) fun t32 =>
 bq (fa 2 1 t4) fun t33 =>
 bq (ld1 h t33) fun t34 =>
 bq (bd #[(Value.string (ByteArray.mk #[])),(Value.int .i64 0),(Value.int .i64 0),(Value.string (ByteArray.mk #[])),(Value.slice none 0 0)] [(0,1,(Value.string (ByteArray.mk #[115,116,114,105,110,103]))),(1,1,t32),(3,1,t34)]) fun t35 =>
 bq (stN 5 h t2 t35) fun h=>(fun _ h =>
 let t3:Value:=(Value.int .u8 116)
 bq (seqO [ldN 5 h t2,some t3]) fun vs=>Q (.ret (oneOf vs)) h) undef h) (fun v h=>Q (.pan v) h)))
 (let t36:Value:=t0
 HC Tryz.prog 61 (([]:List Value)++[t36]++([]:List Value)).toArray h (resK (fun t37 h =>
 let t38:Value:=t0
 HC Tryz.prog 30 (([]:List Value)++[t38,(Value.int .i64 4),(Value.string (ByteArray.mk #[40]))]++([]:List Value)).toArray h (resK (fun t39 h =>
 condP (some t39)
 (let t40:Value:=t0
 bq (ldN 3 h t4) fun t41 =>
 HC Tryz.prog 62 (([]:List Value)++[t40,t41]++([]:List Value)).toArray h (resK (fun t42 h =>
 bq (opExtract t42 0) fun t43 =>
 bq (opExtract t42 1) fun t44 =>
 bq (stN 5 h t2 t43) fun h=>(fun _ h =>
 let t3:Value:=t44
 bq (seqO [ldN 5 h t2,some t3]) fun vs=>Q (.ret (oneOf vs)) h) undef h) (fun v h=>Q (.pan v) h)))
 (let t46:Value:=t0
 bq (fa 2 1 t4) fun t47 =>
 bq (ld1 h t47) fun t48 =>
 HC Tryz.prog 63 (([]:List Value)++[t46,t48]++([]:List Value)).toArray h (resK (fun t49 h =>
 let t45:Value:=t49
 bq (opExtract t45 0) fun t50 =>
 bq (opExtract t45 1) fun t51 =>
 let t7:Value:=t50
 let t8:Value:=t51
 let t52:Value:=t8
 bq (unV Tryz.prog .not t52) fun t53 =>
 condP (some t53)
 (let t54:Value:=t0
 bq (fa 1 1 t4) fun t55 =>
 bq (ld1 h t55) fun t56 =>
 HC Tryz.prog 46 (([]:List Value)++[t54,(Value.int .i64 162),t56]++([]:List Value)).toArray h (resK (fun t57 h =>
 K49_16 t2 t4 t7 h Q) (fun v h=>Q (.pan v) h)))
 (K49_16 t2 t4 t7 h Q)) (fun v h=>Q (.pan v) h)))) (fun v h=>Q (.pan v) h))) (fun v h=>Q (.pan v) h))))) undef h) (opNew h 55 #[(Value.int .i64 0),(Value.int .i64 0),(Value.string (ByteArray.mk #[]))]).1 (opNew h 55 #[(Value.int .i64 0),(Value.int .i64 0),(Value.string (ByteArray.mk #[]))]).2) (fun v h=>Q (.pan v) h))) (opNew h 64 #[(Value.string (ByteArray.mk #[])),(Value.int .i64 0),(Value.int .i64 0),(Value.string (ByteArray.mk #[])),(Value.slice none 0 0)]).1 (opNew h 64 #[(Value.string (ByteArray.mk #[])),(Value.int .i64 0),(Value.int .i64 0),(Value.string (ByteArray.mk #[])),(Value.slice none 0 0)]).2
theorem X49_eq (t0:Value) (h:AH) (Q:RQ):X49 t0 h Q=wpC Tryz.prog L49 code49 (argA [t0] Tryz.f49.ntmps) h (retK Tryz.prog res49 Q):=by kernel_rfl
theorem X49_body:Tryz.f49.body=some code49:=by kernel_rfl
theorem X49_ok {t0:Value} {h:AH} {Q:RQ} (H:X49 t0 h Q):HC Tryz.prog 49 [t0].toArray h Q:=HC.body Tryz.func49 X49_body ((X49_eq t0 h Q).mp H)
noncomputable def code29:Code:=match Tryz.f29.body with | some c=>c | none=>.skip
noncomputable def res29:List ResultVar:=Tryz.f29.results.toList
def L29:Nat→Option (List Nat):=fun r=>if r=4 then some [0,1,2,7] else if r=6 then some [0,2,7] else if r=12 then some [0,7,8,9] else none
noncomputable def J29_4 (t0 t1 t2 t7:Value) (h:AH) (Q:RQ):Prop:=wpC Tryz.prog L29 (cAt code29 [.r,.r,.r]) (mkA 101 [(0,t0),(1,t1),(2,t2),(7,t7)]) h (ctxAt Tryz.prog L29 code29 [.r,.r,.r] (retK Tryz.prog res29 Q))
noncomputable def K29_4 (t0 t1 t2 t7:Value) (h:AH) (Q:RQ):Prop:=(ctxAt Tryz.prog L29 code29 [.r,.r,.l] (retK Tryz.prog res29 Q)) .normal (mkA 101 [(0,t0),(1,t1),(2,t2),(7,t7)]) h
theorem K29_4_eq (t0 t1 t2 t7:Value) (h:AH) (Q:RQ):J29_4 t0 t1 t2 t7 h Q=K29_4 t0 t1 t2 t7 h Q:=join_eq (p:=[.r,.r]) (code:=code29) (by kernel_rfl) (by kernel_rfl)
noncomputable def J29_6 (t0 t2 t7:Value) (h:AH) (Q:RQ):Prop:=wpC Tryz.prog L29 (cAt code29 [.r,.r,.r,.r]) (mkA 101 [(0,t0),(2,t2),(7,t7)]) h (ctxAt Tryz.prog L29 code29 [.r,.r,.r,.r] (retK Tryz.prog res29 Q))
noncomputable def K29_6 (t0 t2 t7:Value) (h:AH) (Q:RQ):Prop:=(ctxAt Tryz.prog L29 code29 [.r,.r,.r,.l] (retK Tryz.prog res29 Q)) .normal (mkA 101 [(0,t0),(2,t2),(7,t7)]) h
theorem K29_6_eq (t0 t2 t7:Value) (h:AH) (Q:RQ):J29_6 t0 t2 t7 h Q=K29_6 t0 t2 t7 h Q:=join_eq (p:=[.r,.r,.r]) (code:=code29) (by kernel_rfl) (by kernel_rfl)
noncomputable def H29_12 (t0 t7 t8 t9:Value) (h:AH) (Q:RQ):Prop:=HL Tryz.prog (cAt code29 [.r,.r,.r,.r,.r,.r,.r,.r,.r,.r,.l,.i,.i]) (mkA 101 [(0,t0),(7,t7),(8,t8),(9,t9)]) h (ctxAt Tryz.prog L29 code29 [.r,.r,.r,.r,.r,.r,.r,.r,.r,.r,.l,.i] (retK Tryz.prog res29 Q))
noncomputable def X29_12 (t0 t7 t8 t9:Value) (h:AH) (Q:RQ):Prop :=
 let t66:Value:=t0
 HC Tryz.prog 30 (([]:List Value)++[t66,(Value.int .i64 4),(Value.string (ByteArray.mk #[125]))]++([]:List Value)).toArray h (resK (fun t67 h =>
 bq (unV Tryz.prog .not t67) fun t68 =>
 condP (some t68)
 (let t69:Value:=t9
 let t70:Value:=t0
 HC Tryz.prog 48 (([]:List Value)++[t70]++([]:List Value)).toArray h (resK (fun t71 h =>
 bq (bs 104 #[(Value.string (ByteArray.mk #[])),(Value.string (ByteArray.mk #[])),(Value.string (ByteArray.mk #[])),(Value.int .i64 0),(Value.int .i64 0),(Value.string (ByteArray.mk #[])),(Value.slice none 0 0),(Value.string (ByteArray.mk #[])),(Value.int .i64 0),(Value.int .i64 0),(Value.string (ByteArray.mk #[])),(Value.slice none 0 0),(Value.slice none 0 0),(Value.slice none 0 0)] 1 h [(0,14,t71)]) fun r=>(fun t72 h =>
 bq (apT 104 14 224 (some (Value.agg #[(Value.string (ByteArray.mk #[])),(Value.string (ByteArray.mk #[])),(Value.string (ByteArray.mk #[])),(Value.int .i64 0),(Value.int .i64 0),(Value.string (ByteArray.mk #[])),(Value.slice none 0 0),(Value.string (ByteArray.mk #[])),(Value.int .i64 0),(Value.int .i64 0),(Value.string (ByteArray.mk #[])),(Value.slice none 0 0),(Value.slice none 0 0),(Value.slice none 0 0)])) h t69 t72) fun r=>(fun t73 h =>
 let t9:Value:=t73
 H29_12 t0 t7 t8 t9 h Q) r.1 r.2) r.1 r.2) (fun v h=>Q (.pan v) h)))
 (let t74:Value:=t0
 HC Tryz.prog 31 (([]:List Value)++[t74]++([]:List Value)).toArray h (resK (fun t75 h =>
 let t76:Value:=t0
 let t77:Value:=t0
 bq (nilV Tryz.prog t77) fun t78 =>
 bq (fa 1 1 t78) fun t79 =>
 bq (ld1 h t79) fun t80 =>
 let t81:Value:=t8
 bq (sliceV Tryz.prog h 56 t80 none (some t81)) fun t82 =>
 bq (nilV Tryz.prog t76) fun t83 =>
 bq (fa 1 1 t83) fun t84 =>
 bq (stN 1 h t84 t82) fun h=>(fun _ h =>
 let t85:Value:=t0
 bq (nilV Tryz.prog t85) fun t86 =>
 bq (fa 2 1 t86) fun t87 =>
 bq (ld1 h t87) fun t88 =>
 bq (binV Tryz.prog .sub 3 (.tmp 88) (.const (Value.int .i64 1)) t88 (Value.int .i64 1) h) fun t89 =>
 bq (nilV Tryz.prog t85) fun t90 =>
 bq (fa 2 1 t90) fun t91 =>
 bq (stN 1 h t91 t89) fun h=>(fun _ h =>
 let t92:Value:=t0
 bq (nilV Tryz.prog t92) fun t93 =>
 bq (fa 3 1 t93) fun t94 =>
 bq (ld1 h t94) fun t95 =>
 let t96:Value:=t7
 bq (binV Tryz.prog .sub 3 (.tmp 95) (.tmp 96) t95 t96 h) fun t97 =>
 bq (nilV Tryz.prog t92) fun t98 =>
 bq (fa 3 1 t98) fun t99 =>
 bq (stN 1 h t99 t97) fun h=>(fun _ h =>
 let t100:Value:=t9
 let t6:Value:=t100
 Q (.ret t6) h) undef h) undef h) undef h) (fun v h=>Q (.pan v) h)))) (fun v h=>Q (.pan v) h))
theorem X29_12_eq (t0 t7 t8 t9:Value) (h:AH) (Q:RQ):X29_12 t0 t7 t8 t9 h Q=wpC Tryz.prog L29 (cAt code29 [.r,.r,.r,.r,.r,.r,.r,.r,.r,.r,.l,.i,.i]) (mkA 101 [(0,t0),(7,t7),(8,t8),(9,t9)]) h (ctxAt Tryz.prog L29 code29 [.r,.r,.r,.r,.r,.r,.r,.r,.r,.r,.l,.i,.i] (retK Tryz.prog res29 Q)):=by kernel_rfl
theorem X29_12_ok {t0 t7 t8 t9:Value} {h:AH} {Q:RQ} (H:X29_12 t0 t7 t8 t9 h Q):H29_12 t0 t7 t8 t9 h Q:=HL.step (L:=L29) ((X29_12_eq t0 t7 t8 t9 h Q).mp H)
noncomputable def X29_6 (t0 t2 t7:Value) (h:AH) (Q:RQ):Prop :=
 let t35:Value:=t0
 HC Tryz.prog 28 (([]:List Value)++[t35,(Value.int .i64 4),(Value.string (ByteArray.mk #[123]))]++([]:List Value)).toArray h (resK (fun t36 h =>
 let t37:Value:=t0
 bq (nilV Tryz.prog t37) fun t38 =>
 bq (fa 2 1 t38) fun t39 =>
 bq (ld1 h t39) fun t40 =>
 bq (binV Tryz.prog .add 3 (.tmp 40) (.const (Value.int .i64 1)) t40 (Value.int .i64 1) h) fun t41 =>
 bq (nilV Tryz.prog t37) fun t42 =>
 bq (fa 2 1 t42) fun t43 =>
 bq (stN 1 h t43 t41) fun h=>(fun _ h =>
 let t44:Value:=t0
 bq (nilV Tryz.prog t44) fun t45 =>
 bq (fa 3 1 t45) fun t46 =>
 bq (ld1 h t46) fun t47 =>
 let t48:Value:=t7
 bq (binV Tryz.prog .add 3 (.tmp 47) (.tmp 48) t47 t48 h) fun t49 =>
 bq (nilV Tryz.prog t44) fun t50 =>
 bq (fa 3 1 t50) fun t51 =>
 bq (stN 1 h t51 t49) fun h=>(fun _ h =>
 let t52:Value:=t0
 bq (nilV Tryz.prog t52) fun t53 =>
 bq (fa 1 1 t53) fun t54 =>
 bq (ld1 h t54) fun t55 =>
 bq (lenL t55) fun t56 =>
 let t8:Value:=t56
 let t57:Value:=t0
 let t58:Value:=t0
 bq (nilV Tryz.prog t58) fun t59 =>
 bq (fa 1 1 t59) fun t60 =>
 bq (ld1 h t60) fun t61 =>
 let t62:Value:=t2
 bq (apT 86 2 24 (some (Value.agg #[(Value.string (ByteArray.mk #[])),(Value.int .u8 0)])) h t61 t62) fun r=>(fun t63 h =>
 bq (nilV Tryz.prog t57) fun t64 =>
 bq (fa 1 1 t64) fun t65 =>
 bq (stN 1 h t65 t63) fun h=>(fun _ h =>
 let t9:Value:=(Value.slice none 0 0)
 H29_12 t0 t7 t8 t9 h Q) undef h) r.1 r.2) undef h) undef h) (fun v h=>Q (.pan v) h))
theorem X29_6_eq (t0 t2 t7:Value) (h:AH) (Q:RQ):X29_6 t0 t2 t7 h Q=wpC Tryz.prog L29 (cAt code29 [.r,.r,.r,.r]) (mkA 101 [(0,t0),(2,t2),(7,t7)]) h (ctxAt Tryz.prog L29 code29 [.r,.r,.r,.r] (retK Tryz.prog res29 Q)):=by kernel_rfl
theorem X29_6_ok {t0 t2 t7:Value} {h:AH} {Q:RQ} (H:X29_6 t0 t2 t7 h Q):K29_6 t0 t2 t7 h Q:=(K29_6_eq t0 t2 t7 h Q).mp (((X29_6_eq t0 t2 t7 h Q).mp H))
noncomputable def X29_4 (t0 t1 t2 t7:Value) (h:AH) (Q:RQ):Prop :=
 let t11:Value:=t0
 HC Tryz.prog 30 (([]:List Value)++[t11,(Value.int .i64 4),(Value.string (ByteArray.mk #[123]))]++([]:List Value)).toArray h (resK (fun t12 h =>
 let t13:Value:=t12
 guardQ t13 true h (fun k=>k t0 h) fun t14 h =>
 guardQ t13 true h (fun k=>bq (nilV Tryz.prog t14) fun v=>k v h) fun t15 h =>
 guardQ t13 true h (fun k=>bq (fa 2 1 t15) fun v=>k v h) fun t16 h =>
 guardQ t13 true h (fun k=>bq (ld1 h t16) fun v=>k v h) fun t17 h =>
 guardQ t13 true h (fun k=>bq (binV Tryz.prog .geq 3 (.tmp 17) (.const (Value.int .i64 8)) t17 (Value.int .i64 8) h) fun v=>k v h) fun t18 h =>
 guardQ t13 true h (fun k=>k t18 h) fun t19 h =>
 guardQ t19 false h (fun k=>k t1 h) fun t20 h =>
 guardQ t19 false h (fun k=>k t20 h) fun t21 h =>
 guardQ t21 true h (fun k=>k t0 h) fun t22 h =>
 guardQ t21 true h (fun k=>bq (nilV Tryz.prog t22) fun v=>k v h) fun t23 h =>
 guardQ t21 true h (fun k=>bq (fa 3 1 t23) fun v=>k v h) fun t24 h =>
 guardQ t21 true h (fun k=>bq (ld1 h t24) fun v=>k v h) fun t25 h =>
 guardQ t21 true h (fun k=>bq (binV Tryz.prog .geq 3 (.tmp 25) (.const (Value.int .i64 2)) t25 (Value.int .i64 2) h) fun v=>k v h) fun t26 h =>
 guardQ t19 false h (fun k=>bq (pickV t21 t26 (Value.bool false)) fun v=>k v h) fun t27 h =>
 guardQ t13 true h (fun k=>bq (pickV t19 (Value.bool true) t27) fun v=>k v h) fun t28 h =>
 bq (pickV t13 t28 (Value.bool false)) fun t29 =>
 condP (some t29)
 (let t30:Value:=t0
 let t31:Value:=t0
 HC Tryz.prog 47 (([]:List Value)++[t31]++([]:List Value)).toArray h (resK (fun t32 h =>
 bq (fd1 1 t32) fun t33 =>
 HC Tryz.prog 46 (([]:List Value)++[t30,(Value.int .i64 164),t33]++([]:List Value)).toArray h (resK (fun t34 h =>
 K29_6 t0 t2 t7 h Q) (fun v h=>Q (.pan v) h))) (fun v h=>Q (.pan v) h)))
 (K29_6 t0 t2 t7 h Q)) (fun v h=>Q (.pan v) h))
theorem X29_4_eq (t0 t1 t2 t7:Value) (h:AH) (Q:RQ):X29_4 t0 t1 t2 t7 h Q=wpC Tryz.prog L29 (cAt code29 [.r,.r,.r]) (mkA 101 [(0,t0),(1,t1),(2,t2),(7,t7)]) h (ctxAt Tryz.prog L29 code29 [.r,.r,.r] (retK Tryz.prog res29 Q)):=by kernel_rfl
theorem X29_4_ok {t0 t1 t2 t7:Value} {h:AH} {Q:RQ} (H:X29_4 t0 t1 t2 t7 h Q):K29_4 t0 t1 t2 t7 h Q:=(K29_4_eq t0 t1 t2 t7 h Q).mp (((X29_4_eq t0 t1 t2 t7 h Q).mp H))
noncomputable def X29 (t0 t1 t2:Value) (h:AH) (Q:RQ):Prop :=
 let t6:Value:=(Value.slice none 0 0)
 let t7:Value:=(Value.int .i64 0)
 let t10:Value:=t1
 condP (some t10)
 (let t7:Value:=(Value.int .i64 1)
 K29_4 t0 t1 t2 t7 h Q)
 (K29_4 t0 t1 t2 t7 h Q)
theorem X29_eq (t0 t1 t2:Value) (h:AH) (Q:RQ):X29 t0 t1 t2 h Q=wpC Tryz.prog L29 code29 (argA [t0,t1,t2] Tryz.f29.ntmps) h (retK Tryz.prog res29 Q):=by kernel_rfl
theorem X29_body:Tryz.f29.body=some code29:=by kernel_rfl
theorem X29_ok {t0 t1 t2:Value} {h:AH} {Q:RQ} (H:X29 t0 t1 t2 h Q):HC Tryz.prog 29 [t0,t1,t2].toArray h Q:=HC.body Tryz.func29 X29_body ((X29_eq t0 t1 t2 h Q).mp H)
noncomputable def code17:Code:=match Tryz.f17.body with | some c=>c | none=>.skip
noncomputable def res17:List ResultVar:=Tryz.f17.results.toList
def L17:Nat→Option (List Nat):=fun r=>if r=9 then some [0,3,4] else if r=17 then some [0,4] else none
noncomputable def J17_9 (t0 t3 t4:Value) (h:AH) (Q:RQ):Prop:=wpC Tryz.prog L17 (cAt code17 [.r,.r,.r,.r,.r,.r]) (mkA 64 [(0,t0),(3,t3),(4,t4)]) h (ctxAt Tryz.prog L17 code17 [.r,.r,.r,.r,.r,.r] (retK Tryz.prog res17 Q))
noncomputable def K17_9 (t0 t3 t4:Value) (h:AH) (Q:RQ):Prop:=(ctxAt Tryz.prog L17 code17 [.r,.r,.r,.r,.r,.l] (retK Tryz.prog res17 Q)) .normal (mkA 64 [(0,t0),(3,t3),(4,t4)]) h
theorem K17_9_eq (t0 t3 t4:Value) (h:AH) (Q:RQ):J17_9 t0 t3 t4 h Q=K17_9 t0 t3 t4 h Q:=join_eq (p:=[.r,.r,.r,.r,.r]) (code:=code17) (by kernel_rfl) (by kernel_rfl)
noncomputable def J17_17 (t0 t4:Value) (h:AH) (Q:RQ):Prop:=wpC Tryz.prog L17 (cAt code17 [.r,.r,.r,.r,.r,.r,.r,.r,.r]) (mkA 64 [(0,t0),(4,t4)]) h (ctxAt Tryz.prog L17 code17 [.r,.r,.r,.r,.r,.r,.r,.r,.r] (retK Tryz.prog res17 Q))
noncomputable def K17_17 (t0 t4:Value) (h:AH) (Q:RQ):Prop:=(ctxAt Tryz.prog L17 code17 [.r,.r,.r,.r,.r,.r,.r,.r,.l] (retK Tryz.prog res17 Q)) .normal (mkA 64 [(0,t0),(4,t4)]) h
theorem K17_17_eq (t0 t4:Value) (h:AH) (Q:RQ):J17_17 t0 t4 h Q=K17_17 t0 t4 h Q:=join_eq (p:=[.r,.r,.r,.r,.r,.r,.r,.r]) (code:=code17) (by kernel_rfl) (by kernel_rfl)
noncomputable def X17_17 (t0 t4:Value) (h:AH) (Q:RQ):Prop :=
 let t61:Value:=t0
 HC Tryz.prog 28 (([]:List Value)++[t61,(Value.int .i64 0),(Value.string (ByteArray.mk #[]))]++([]:List Value)).toArray h (resK (fun t62 h =>
 let t63:Value:=t4
 let t2:Value:=t63
 Q (.ret t2) h) (fun v h=>Q (.pan v) h))
theorem X17_17_eq (t0 t4:Value) (h:AH) (Q:RQ):X17_17 t0 t4 h Q=wpC Tryz.prog L17 (cAt code17 [.r,.r,.r,.r,.r,.r,.r,.r,.r]) (mkA 64 [(0,t0),(4,t4)]) h (ctxAt Tryz.prog L17 code17 [.r,.r,.r,.r,.r,.r,.r,.r,.r] (retK Tryz.prog res17 Q)):=by kernel_rfl
theorem X17_17_ok {t0 t4:Value} {h:AH} {Q:RQ} (H:X17_17 t0 t4 h Q):K17_17 t0 t4 h Q:=(K17_17_eq t0 t4 h Q).mp (((X17_17_eq t0 t4 h Q).mp H))
noncomputable def X17_9 (t0 t3 t4:Value) (h:AH) (Q:RQ):Prop :=
 let t33:Value:=t0
 HC Tryz.prog 28 (([]:List Value)++[t33,(Value.int .i64 1),(Value.string (ByteArray.mk #[114,101,100,117,99,101]))]++([]:List Value)).toArray h (resK (fun t34 h =>
 let t35:Value:=t4
 let t36:Value:=t0
 let t37:Value:=t3
 HC Tryz.prog 29 (([]:List Value)++[t36,(Value.bool false),t37]++([]:List Value)).toArray h (resK (fun t38 h =>
 bq (nilV Tryz.prog t35) fun t39 =>
 bq (fa 2 1 t39) fun t40 =>
 bq (stN 1 h t40 t38) fun h=>(fun _ h =>
 let t41:Value:=t0
 HC Tryz.prog 30 (([]:List Value)++[t41,(Value.int .i64 1),(Value.string (ByteArray.mk #[112,97,114,116]))]++([]:List Value)).toArray h (resK (fun t42 h =>
 condP (some t42)
 (let t43:Value:=t0
 HC Tryz.prog 31 (([]:List Value)++[t43]++([]:List Value)).toArray h (resK (fun t44 h =>
 let t45:Value:=t4
 bq (nilV Tryz.prog t45) fun t46 =>
 bq (fa 4 1 t46) fun t47 =>
 bq (stN 1 h t47 (Value.bool true)) fun h=>(fun _ h =>
 let t48:Value:=t0
 bq (bd #[(Value.string (ByteArray.mk #[])),(Value.int .u8 0)] [(0,1,(Value.string (ByteArray.mk #[107,101,121]))),(1,1,(Value.int .u8 116))]) fun t49 =>
 bq (bd #[(Value.string (ByteArray.mk #[])),(Value.int .u8 0)] [(0,1,(Value.string (ByteArray.mk #[112,97,114,116,115]))),(1,1,(Value.int .u8 110))]) fun t50 =>
 bq (bs 86 #[(Value.string (ByteArray.mk #[])),(Value.int .u8 0),(Value.string (ByteArray.mk #[])),(Value.int .u8 0)] 2 h [(0,2,t49),(2,2,t50)]) fun r=>(fun t51 h =>
 bq (nilV Tryz.prog t48) fun t52 =>
 bq (fa 1 1 t52) fun t53 =>
 bq (stN 1 h t53 t51) fun h=>(fun _ h =>
 let t54:Value:=t4
 let t55:Value:=t0
 HC Tryz.prog 32 (([]:List Value)++[t55,(Value.int .u8 110)]++([]:List Value)).toArray h (resK (fun t56 h =>
 bq (nilV Tryz.prog t54) fun t57 =>
 bq (fa 5 5 t57) fun t58 =>
 bq (stN 5 h t58 t56) fun h=>(fun _ h =>
 let t59:Value:=t0
 HC Tryz.prog 28 (([]:List Value)++[t59,(Value.int .i64 4),(Value.string (ByteArray.mk #[59]))]++([]:List Value)).toArray h (resK (fun t60 h =>
 K17_17 t0 t4 h Q) (fun v h=>Q (.pan v) h))) undef h) (fun v h=>Q (.pan v) h))) undef h) r.1 r.2) undef h) (fun v h=>Q (.pan v) h)))
 (K17_17 t0 t4 h Q)) (fun v h=>Q (.pan v) h))) undef h) (fun v h=>Q (.pan v) h))) (fun v h=>Q (.pan v) h))
theorem X17_9_eq (t0 t3 t4:Value) (h:AH) (Q:RQ):X17_9 t0 t3 t4 h Q=wpC Tryz.prog L17 (cAt code17 [.r,.r,.r,.r,.r,.r]) (mkA 64 [(0,t0),(3,t3),(4,t4)]) h (ctxAt Tryz.prog L17 code17 [.r,.r,.r,.r,.r,.r] (retK Tryz.prog res17 Q)):=by kernel_rfl
theorem X17_9_ok {t0 t3 t4:Value} {h:AH} {Q:RQ} (H:X17_9 t0 t3 t4 h Q):K17_9 t0 t3 t4 h Q:=(K17_9_eq t0 t3 t4 h Q).mp (((X17_9_eq t0 t3 t4 h Q).mp H))
noncomputable def X17 (t0:Value) (h:AH) (Q:RQ):Prop :=
 let t2:Value:=(Value.pointer none)
 bq (bd #[(Value.string (ByteArray.mk #[])),(Value.int .u8 0)] [(0,1,(Value.string (ByteArray.mk #[107,101,121]))),(1,1,(Value.int .u8 116))]) fun t5 =>
 bq (bd #[(Value.string (ByteArray.mk #[])),(Value.int .u8 0)] [(0,1,(Value.string (ByteArray.mk #[118,97,108,117,101,115]))),(1,1,(Value.int .u8 108))]) fun t6 =>
 bq (bs 86 #[(Value.string (ByteArray.mk #[])),(Value.int .u8 0),(Value.string (ByteArray.mk #[])),(Value.int .u8 0)] 2 h [(0,2,t5),(2,2,t6)]) fun r=>(fun t7 h =>
 let t3:Value:=t7
 bq (bd #[(Value.slice none 0 0),(Value.slice none 0 0),(Value.slice none 0 0),(Value.bool false),(Value.bool false),(Value.string (ByteArray.mk #[])),(Value.int .i64 0),(Value.int .i64 0),(Value.string (ByteArray.mk #[])),(Value.slice none 0 0)] []) fun t8 =>
 (fun t9 h =>
 let t4:Value:=t9
 let t10:Value:=t0
 HC Tryz.prog 28 (([]:List Value)++[t10,(Value.int .i64 1),(Value.string (ByteArray.mk #[109,97,112]))]++([]:List Value)).toArray h (resK (fun t11 h =>
 let t12:Value:=t4
 let t13:Value:=t0
 bq (bd #[(Value.string (ByteArray.mk #[])),(Value.int .u8 0)] [(0,1,(Value.string (ByteArray.mk #[107,101,121]))),(1,1,(Value.int .u8 116))]) fun t14 =>
 bq (bd #[(Value.string (ByteArray.mk #[])),(Value.int .u8 0)] [(0,1,(Value.string (ByteArray.mk #[118,97,108,117,101]))),(1,1,(Value.int .u8 116))]) fun t15 =>
 bq (bs 86 #[(Value.string (ByteArray.mk #[])),(Value.int .u8 0),(Value.string (ByteArray.mk #[])),(Value.int .u8 0)] 2 h [(0,2,t14),(2,2,t15)]) fun r=>(fun t16 h =>
 HC Tryz.prog 29 (([]:List Value)++[t13,(Value.bool false),t16]++([]:List Value)).toArray h (resK (fun t17 h =>
 bq (nilV Tryz.prog t12) fun t18 =>
 bq (fa 0 1 t18) fun t19 =>
 bq (stN 1 h t19 t17) fun h=>(fun _ h =>
 let t20:Value:=t0
 HC Tryz.prog 30 (([]:List Value)++[t20,(Value.int .i64 1),(Value.string (ByteArray.mk #[99,111,109,98,105,110,101]))]++([]:List Value)).toArray h (resK (fun t21 h =>
 condP (some t21)
 (let t22:Value:=t0
 HC Tryz.prog 31 (([]:List Value)++[t22]++([]:List Value)).toArray h (resK (fun t23 h =>
 let t24:Value:=t4
 bq (nilV Tryz.prog t24) fun t25 =>
 bq (fa 3 1 t25) fun t26 =>
 bq (stN 1 h t26 (Value.bool true)) fun h=>(fun _ h =>
 let t27:Value:=t4
 let t28:Value:=t0
 let t29:Value:=t3
 HC Tryz.prog 29 (([]:List Value)++[t28,(Value.bool false),t29]++([]:List Value)).toArray h (resK (fun t30 h =>
 bq (nilV Tryz.prog t27) fun t31 =>
 bq (fa 1 1 t31) fun t32 =>
 bq (stN 1 h t32 t30) fun h=>(fun _ h =>
 K17_9 t0 t3 t4 h Q) undef h) (fun v h=>Q (.pan v) h))) undef h) (fun v h=>Q (.pan v) h)))
 (K17_9 t0 t3 t4 h Q)) (fun v h=>Q (.pan v) h))) undef h) (fun v h=>Q (.pan v) h))) r.1 r.2) (fun v h=>Q (.pan v) h))) (opNew h 66 t8.cells).1 (opNew h 66 t8.cells).2) r.1 r.2
theorem X17_eq (t0:Value) (h:AH) (Q:RQ):X17 t0 h Q=wpC Tryz.prog L17 code17 (argA [t0] Tryz.f17.ntmps) h (retK Tryz.prog res17 Q):=by kernel_rfl
theorem X17_body:Tryz.f17.body=some code17:=by kernel_rfl
theorem X17_ok {t0:Value} {h:AH} {Q:RQ} (H:X17 t0 h Q):HC Tryz.prog 17 [t0].toArray h Q:=HC.body Tryz.func17 X17_body ((X17_eq t0 h Q).mp H)
noncomputable def code7:Code:=match Tryz.f7.body with | some c=>c | none=>.skip
noncomputable def res7:List ResultVar:=Tryz.f7.results.toList
def L7:Nat→Option (List Nat):=fun r=>none
noncomputable def X7 (t0:Value) (h:AH) (Q:RQ):Prop :=
 (fun t2 h =>
 (fun t3 h =>
 let t6:Value:=t0
 bq (lenS t6) fun t7 =>
 bq (binV Tryz.prog .gtr 3 (.tmp 7) (.const (Value.int .i64 4096)) t7 (Value.int .i64 4096) h) fun t8 =>
 condP (some t8)
 (bq (bd #[(Value.int .i64 0),(Value.int .i64 0)] [(0,1,(Value.int .i64 1))]) fun t9 =>
 bq (stN 1 h t2 (Value.pointer none)) fun h=>(fun _ h =>
 bq (stN 2 h t3 t9) fun h=>(fun _ h =>
 retV Tryz.prog res7 Q ([]:List Value) [some t2,some t3] h) undef h) undef h)
 (let t11:Value:=t0
 HC Tryz.prog 15 (([]:List Value)++[t11]++([]:List Value)).toArray h (resK (fun t12 h =>
 let t10:Value:=t12
 bq (opExtract t10 0) fun t13 =>
 bq (opExtract t10 1) fun t14 =>
 let t4:Value:=t13
 bq (stN 2 h t3 t14) fun h=>(fun _ h =>
 bq (ldN 2 h t3) fun t15 =>
 bq (bd #[(Value.int .i64 0),(Value.int .i64 0)] []) fun t16 =>
 bq (binV Tryz.prog .neq 25 (.tmp 15) (.tmp 16) t15 t16 h) fun t17 =>
 condP (some t17)
 (bq (ldN 2 h t3) fun t18 =>
 bq (stN 1 h t2 (Value.pointer none)) fun h=>(fun q5_1 h =>
 ((bq (ldN 2 h t3) fun u=>(u=t18))∧(True)) ∧
 bq (stN 2 h t3 t18) fun h=>(fun q5_2 h =>
 (True) ∧
 retV Tryz.prog res7 Q ([]:List Value) [some t2,some t3] h) undef h) undef h)
 (let t19:Value:=(Value.func (.func 16) [].toArray [t2,t3].toArray)
 bq (deferV t19) fun dv6_1 =>
 let t20:Value:=t4
 let t21:Value:=t4
 let t22:Value:=t4
 bq (lenL t22) fun t23 =>
 bq (binV Tryz.prog .sub 3 (.tmp 23) (.const (Value.int .i64 1)) t23 (Value.int .i64 1) h) fun t24 =>
 bq (ia 3 t21 t24) fun t25 =>
 bq (ldN 3 h t25) fun t26 =>
 bq (bs 55 #[(Value.int .i64 0),(Value.int .i64 0),(Value.string (ByteArray.mk #[]))] 1 h [(0,3,t26)]) fun r=>(fun t27 h =>
 bq (apT 55 3 32 (some (Value.agg #[(Value.int .i64 0),(Value.int .i64 0),(Value.string (ByteArray.mk #[]))])) h t20 t27) fun r=>(fun t28 h =>
 bq (bd #[(Value.slice none 0 0),(Value.slice none 0 0),(Value.int .i64 0),(Value.int .i64 0),(Value.int .i64 0)] [(0,1,t28)]) fun t29 =>
 (fun t30 h =>
 let t5:Value:=t30
 let t31:Value:=t5
 HC Tryz.prog 17 (([]:List Value)++[t31]++([]:List Value)).toArray h (resK (fun t32 h =>
 bq (bd #[(Value.int .i64 0),(Value.int .i64 0)] []) fun t33 =>
 bq (stN 1 h t2 t32) fun h=>(fun _ h =>
 bq (stN 2 h t3 t33) fun h=>(fun _ h =>
 retV Tryz.prog res7 Q (dv6_1::([]:List Value)) [some t2,some t3] h) undef h) undef h) (fun v h=>panD Tryz.prog res7 Q (dv6_1::([]:List Value)) [some t2,some t3] v h))) (opNew h 58 t29.cells).1 (opNew h 58 t29.cells).2) r.1 r.2) r.1 r.2)) undef h) (fun v h=>panD Tryz.prog res7 Q ([]:List Value) [some t2,some t3] v h)))) (opNew h 25 #[(Value.int .i64 0),(Value.int .i64 0)]).1 (opNew h 25 #[(Value.int .i64 0),(Value.int .i64 0)]).2) (opNew h 22 #[(Value.pointer none)]).1 (opNew h 22 #[(Value.pointer none)]).2
theorem X7_eq (t0:Value) (h:AH) (Q:RQ):X7 t0 h Q=wpC Tryz.prog L7 code7 (argA [t0] Tryz.f7.ntmps) h (retD Tryz.prog res7 Q):=by kernel_rfl
theorem X7_body:Tryz.f7.body=some code7:=by kernel_rfl
theorem X7_ok {t0:Value} {h:AH} {Q:RQ} (H:X7 t0 h Q):HC Tryz.prog 7 [t0].toArray h Q:=HC.bodyD Tryz.func7 X7_body ((X7_eq t0 h Q).mp H)
end Go.Proofs.YtibigfkeaemanaaGreatDoor.X
end
