import Derived.KernelRfl
import Derived.Test.YtnaenhkldanjbaaDoorProg
import Derived.Test.YtnaenhkldanjbaaDoorZ14
set_option linter.unusedVariables false
set_option linter.unusedSimpArgs false
section
namespace Go.Proofs.YtnaenhkldanjbaaDoor.X
open Go.Ab
set_option maxRecDepth 100000
noncomputable def code37:Code:=match Tryd.f37.body with | some c=>c | none=>.skip
noncomputable def res37:List ResultVar:=Tryd.f37.results.toList
def L37:Nat→Option (List Nat):=fun r=>none
noncomputable def X37 (t0:Value) (h:AH) (Q:RQ):Prop :=
 (fun t2 h =>
 let t3:Value:=t0
 bq (nilV Tryd.prog t3) fun t4 =>
 bq (fa 0 1 t4) fun t5 =>
 bq (ld1 h t5) fun t6 =>
 bq (ia 3 t6 (Value.int .i64 0)) fun t7 =>
 bq (ldN 3 h t7) fun t8 =>
 bq (stN 3 h t2 t8) fun h=>(fun _ h =>
 bq (seqO [ldN 3 h t2]) fun vs=>Q (.ret (oneOf vs)) h) undef h) (opNew h 52 #[(Value.int .i64 0),(Value.int .i64 0),(Value.string (ByteArray.mk #[]))]).1 (opNew h 52 #[(Value.int .i64 0),(Value.int .i64 0),(Value.string (ByteArray.mk #[]))]).2
theorem X37_eq (t0:Value) (h:AH) (Q:RQ):X37 t0 h Q=wpC Tryd.prog L37 code37 (argA [t0] Tryd.f37.ntmps) h (retK Tryd.prog res37 Q):=by kernel_rfl
theorem X37_body:Tryd.f37.body=some code37:=by kernel_rfl
theorem X37_ok {t0:Value} {h:AH} {Q:RQ} (H:X37 t0 h Q):HC Tryd.prog 37 [t0].toArray h Q:=HC.body Tryd.func37 X37_body ((X37_eq t0 h Q).mp H)
noncomputable def code36:Code:=match Tryd.f36.body with | some c=>c | none=>.skip
noncomputable def res36:List ResultVar:=Tryd.f36.results.toList
def L36:Nat→Option (List Nat):=fun r=>none
noncomputable def X36 (t0 t1 t2:Value) (h:AH) (Q:RQ):Prop :=
 let t6:Value:=t1
 let t7:Value:=t2
 bq (bd #[(Value.int .i64 0),(Value.int .i64 0)] [(0,1,t6),(1,1,t7)]) fun t8 =>
 bq (mi 26 t8) fun t9 =>
 panicP t9 h (fun v h=>Q (.pan v) h)
theorem X36_eq (t0 t1 t2:Value) (h:AH) (Q:RQ):X36 t0 t1 t2 h Q=wpC Tryd.prog L36 code36 (argA [t0,t1,t2] Tryd.f36.ntmps) h (retK Tryd.prog res36 Q):=by kernel_rfl
theorem X36_body:Tryd.f36.body=some code36:=by kernel_rfl
theorem X36_ok {t0 t1 t2:Value} {h:AH} {Q:RQ} (H:X36 t0 t1 t2 h Q):HC Tryd.prog 36 [t0,t1,t2].toArray h Q:=HC.body Tryd.func36 X36_body ((X36_eq t0 t1 t2 h Q).mp H)
noncomputable def code27:Code:=match Tryd.f27.body with | some c=>c | none=>.skip
noncomputable def res27:List ResultVar:=Tryd.f27.results.toList
def L27:Nat→Option (List Nat):=fun r=>none
noncomputable def X27 (t0:Value) (h:AH) (Q:RQ):Prop :=
 (fun t2 h =>
 let t4:Value:=t0
 bq (nilV Tryd.prog t4) fun t5 =>
 bq (fa 0 1 t5) fun t6 =>
 bq (ld1 h t6) fun t7 =>
 bq (ia 3 t7 (Value.int .i64 0)) fun t8 =>
 bq (ldN 3 h t8) fun t9 =>
 (fun t3 h =>
 bq (stN 3 h t3 t9) fun h=>(fun _ h =>
 let t10:Value:=t0
 let t11:Value:=t0
 bq (nilV Tryd.prog t11) fun t12 =>
 bq (fa 0 1 t12) fun t13 =>
 bq (ld1 h t13) fun t14 =>
 bq (sliceV Tryd.prog h 46 t14 (some (Value.int .i64 1)) none) fun t15 =>
 bq (nilV Tryd.prog t10) fun t16 =>
 bq (fa 0 1 t16) fun t17 =>
 bq (stN 1 h t17 t15) fun h=>(fun _ h =>
 bq (ldN 3 h t3) fun t18 =>
 bq (stN 3 h t2 t18) fun h=>(fun _ h =>
 bq (seqO [ldN 3 h t2]) fun vs=>Q (.ret (oneOf vs)) h) undef h) undef h) undef h) (opNew h 52 #[(Value.int .i64 0),(Value.int .i64 0),(Value.string (ByteArray.mk #[]))]).1 (opNew h 52 #[(Value.int .i64 0),(Value.int .i64 0),(Value.string (ByteArray.mk #[]))]).2) (opNew h 52 #[(Value.int .i64 0),(Value.int .i64 0),(Value.string (ByteArray.mk #[]))]).1 (opNew h 52 #[(Value.int .i64 0),(Value.int .i64 0),(Value.string (ByteArray.mk #[]))]).2
theorem X27_eq (t0:Value) (h:AH) (Q:RQ):X27 t0 h Q=wpC Tryd.prog L27 code27 (argA [t0] Tryd.f27.ntmps) h (retK Tryd.prog res27 Q):=by kernel_rfl
theorem X27_body:Tryd.f27.body=some code27:=by kernel_rfl
theorem X27_ok {t0:Value} {h:AH} {Q:RQ} (H:X27 t0 h Q):HC Tryd.prog 27 [t0].toArray h Q:=HC.body Tryd.func27 X27_body ((X27_eq t0 h Q).mp H)
noncomputable def code26:Code:=match Tryd.f26.body with | some c=>c | none=>.skip
noncomputable def res26:List ResultVar:=Tryd.f26.results.toList
def L26:Nat→Option (List Nat):=fun r=>none
noncomputable def X26 (t0 t1 t2:Value) (h:AH) (Q:RQ):Prop :=
 let t6:Value:=(Value.bool false)
 let t7:Value:=t0
 HC Tryd.prog 37 (([]:List Value)++[t7]++([]:List Value)).toArray h (resK (fun t8 h =>
 bq (fd1 0 t8) fun t9 =>
 let t10:Value:=t1
 bq (binV Tryd.prog .eql 50 (.tmp 9) (.tmp 10) t9 t10 h) fun t11 =>
 let t12:Value:=t11
 guardQ t12 true h (fun k=>k t0 h) fun t13 h =>
 guardQ t12 true h (fun k=>HC Tryd.prog 37 (([]:List Value)++[t13]++([]:List Value)).toArray h (resK k (fun v h=>Q (.pan v) h))) fun t14 h =>
 guardQ t12 true h (fun k=>bq (fd1 2 t14) fun v=>k v h) fun t15 h =>
 guardQ t12 true h (fun k=>k t2 h) fun t16 h =>
 guardQ t12 true h (fun k=>bq (binV Tryd.prog .eql 9 (.tmp 15) (.tmp 16) t15 t16 h) fun v=>k v h) fun t17 h =>
 bq (pickV t12 t17 (Value.bool false)) fun t18 =>
 let t6:Value:=t18
 Q (.ret t6) h) (fun v h=>Q (.pan v) h))
theorem X26_eq (t0 t1 t2:Value) (h:AH) (Q:RQ):X26 t0 t1 t2 h Q=wpC Tryd.prog L26 code26 (argA [t0,t1,t2] Tryd.f26.ntmps) h (retK Tryd.prog res26 Q):=by kernel_rfl
theorem X26_body:Tryd.f26.body=some code26:=by kernel_rfl
theorem X26_ok {t0 t1 t2:Value} {h:AH} {Q:RQ} (H:X26 t0 t1 t2 h Q):HC Tryd.prog 26 [t0,t1,t2].toArray h Q:=HC.body Tryd.func26 X26_body ((X26_eq t0 t1 t2 h Q).mp H)
noncomputable def code24:Code:=match Tryd.f24.body with | some c=>c | none=>.skip
noncomputable def res24:List ResultVar:=Tryd.f24.results.toList
def L24:Nat→Option (List Nat):=fun r=>if r=2 then some [0] else none
noncomputable def J24_2 (t0:Value) (h:AH) (Q:RQ):Prop:=wpC Tryd.prog L24 (cAt code24 [.r]) (mkA 18 [(0,t0)]) h (ctxAt Tryd.prog L24 code24 [.r] (retK Tryd.prog res24 Q))
noncomputable def K24_2 (t0:Value) (h:AH) (Q:RQ):Prop:=(ctxAt Tryd.prog L24 code24 [.l] (retK Tryd.prog res24 Q)) .normal (mkA 18 [(0,t0)]) h
theorem K24_2_eq (t0:Value) (h:AH) (Q:RQ):J24_2 t0 h Q=K24_2 t0 h Q:=join_eq (p:=[]) (code:=code24) (by kernel_rfl) (by kernel_rfl)
noncomputable def X24_2 (t0:Value) (h:AH) (Q:RQ):Prop :=
 let t16:Value:=t0
 HC Tryd.prog 27 (([]:List Value)++[t16]++([]:List Value)).toArray h (resK (fun t17 h =>
 Q (.ret (.tuple [].toArray)) h) (fun v h=>Q (.pan v) h))
theorem X24_2_eq (t0:Value) (h:AH) (Q:RQ):X24_2 t0 h Q=wpC Tryd.prog L24 (cAt code24 [.r]) (mkA 18 [(0,t0)]) h (ctxAt Tryd.prog L24 code24 [.r] (retK Tryd.prog res24 Q)):=by kernel_rfl
theorem X24_2_ok {t0:Value} {h:AH} {Q:RQ} (H:X24_2 t0 h Q):K24_2 t0 h Q:=(K24_2_eq t0 h Q).mp (((X24_2_eq t0 h Q).mp H))
noncomputable def X24 (t0 t1 t2:Value) (h:AH) (Q:RQ):Prop :=
 let t6:Value:=t0
 let t7:Value:=t1
 let t8:Value:=t2
 HC Tryd.prog 26 (([]:List Value)++[t6,t7,t8]++([]:List Value)).toArray h (resK (fun t9 h =>
 bq (unV Tryd.prog .not t9) fun t10 =>
 condP (some t10)
 (let t11:Value:=t0
 let t12:Value:=t0
 HC Tryd.prog 37 (([]:List Value)++[t12]++([]:List Value)).toArray h (resK (fun t13 h =>
 bq (fd1 1 t13) fun t14 =>
 HC Tryd.prog 36 (([]:List Value)++[t11,(Value.int .i64 161),t14]++([]:List Value)).toArray h (resK (fun t15 h =>
 K24_2 t0 h Q) (fun v h=>Q (.pan v) h))) (fun v h=>Q (.pan v) h)))
 (K24_2 t0 h Q)) (fun v h=>Q (.pan v) h))
theorem X24_eq (t0 t1 t2:Value) (h:AH) (Q:RQ):X24 t0 t1 t2 h Q=wpC Tryd.prog L24 code24 (argA [t0,t1,t2] Tryd.f24.ntmps) h (retK Tryd.prog res24 Q):=by kernel_rfl
theorem X24_body:Tryd.f24.body=some code24:=by kernel_rfl
theorem X24_ok {t0 t1 t2:Value} {h:AH} {Q:RQ} (H:X24 t0 t1 t2 h Q):HC Tryd.prog 24 [t0,t1,t2].toArray h Q:=HC.body Tryd.func24 X24_body ((X24_eq t0 t1 t2 h Q).mp H)
noncomputable def code46:Code:=match Tryd.f46.body with | some c=>c | none=>.skip
noncomputable def res46:List ResultVar:=Tryd.f46.results.toList
def L46:Nat→Option (List Nat):=fun r=>if r=4 then some [0,2] else none
noncomputable def J46_4 (t0 t2:Value) (h:AH) (Q:RQ):Prop:=wpC Tryd.prog L46 (cAt code46 [.r,.r,.r]) (mkA 22 [(0,t0),(2,t2)]) h (ctxAt Tryd.prog L46 code46 [.r,.r,.r] (retK Tryd.prog res46 Q))
noncomputable def K46_4 (t0 t2:Value) (h:AH) (Q:RQ):Prop:=(ctxAt Tryd.prog L46 code46 [.r,.r,.l] (retK Tryd.prog res46 Q)) .normal (mkA 22 [(0,t0),(2,t2)]) h
theorem K46_4_eq (t0 t2:Value) (h:AH) (Q:RQ):J46_4 t0 t2 h Q=K46_4 t0 t2 h Q:=join_eq (p:=[.r,.r]) (code:=code46) (by kernel_rfl) (by kernel_rfl)
noncomputable def X46_4 (t0 t2:Value) (h:AH) (Q:RQ):Prop :=
 let t20:Value:=t0
 HC Tryd.prog 27 (([]:List Value)++[t20]++([]:List Value)).toArray h (resK (fun t21 h =>
 bq (stN 3 h t2 t21) fun h=>(fun _ h =>
 bq (seqO [ldN 3 h t2]) fun vs=>Q (.ret (oneOf vs)) h) undef h) (fun v h=>Q (.pan v) h))
theorem X46_4_eq (t0 t2:Value) (h:AH) (Q:RQ):X46_4 t0 t2 h Q=wpC Tryd.prog L46 (cAt code46 [.r,.r,.r]) (mkA 22 [(0,t0),(2,t2)]) h (ctxAt Tryd.prog L46 code46 [.r,.r,.r] (retK Tryd.prog res46 Q)):=by kernel_rfl
theorem X46_4_ok {t0 t2:Value} {h:AH} {Q:RQ} (H:X46_4 t0 t2 h Q):K46_4 t0 t2 h Q:=(K46_4_eq t0 t2 h Q).mp (((X46_4_eq t0 t2 h Q).mp H))
noncomputable def X46 (t0:Value) (h:AH) (Q:RQ):Prop :=
 (fun t2 h =>
 let t4:Value:=t0
 HC Tryd.prog 37 (([]:List Value)++[t4]++([]:List Value)).toArray h (resK (fun t5 h =>
 (fun t3 h =>
 bq (stN 3 h t3 t5) fun h=>(fun _ h =>
 bq (fa 0 1 t3) fun t6 =>
 bq (ld1 h t6) fun t7 =>
 bq (binV Tryd.prog .neq 50 (.tmp 7) (.const (Value.int .i64 1)) t7 (Value.int .i64 1) h) fun t8 =>
 let t9:Value:=t8
 guardQ t9 false h (fun k=>bq (fa 2 1 t3) fun v=>k v h) fun t10 h =>
 guardQ t9 false h (fun k=>bq (ld1 h t10) fun v=>k v h) fun t11 h =>
 guardQ t9 false h (fun k=>bq (binV Tryd.prog .add 9 (.const (Value.string (ByteArray.mk #[32]))) (.tmp 11) (Value.string (ByteArray.mk #[32])) t11 h) fun v=>k v h) fun t12 h =>
 guardQ t9 false h (fun k=>bq (binV Tryd.prog .add 9 (.tmp 12) (.const (Value.string (ByteArray.mk #[32]))) t12 (Value.string (ByteArray.mk #[32])) h) fun v=>k v h) fun t13 h =>
 guardQ t9 false h (fun k=>HC Tryd.prog 51 (([]:List Value)++[(Value.string (ByteArray.mk #[32,109,97,112,32,99,111,109,98,105,110,101,32,114,101,100,117,99,101,32,112,97,114,116,32,101,109,105,116,32,108,101,116,32,105,102,32,101,108,115,101,32,101,97,99,104,32,105,110,32,98,121,32,102,111,114,32])),t13]++([]:List Value)).toArray h (resK k (fun v h=>Q (.pan v) h))) fun t14 h =>
 bq (pickV t9 (Value.bool true) t14) fun t15 =>
 condP (some t15)
 (let t16:Value:=t0
 bq (fa 1 1 t3) fun t17 =>
 bq (ld1 h t17) fun t18 =>
 HC Tryd.prog 36 (([]:List Value)++[t16,(Value.int .i64 161),t18]++([]:List Value)).toArray h (resK (fun t19 h =>
 K46_4 t0 t2 h Q) (fun v h=>Q (.pan v) h)))
 (K46_4 t0 t2 h Q)) undef h) (opNew h 52 #[(Value.int .i64 0),(Value.int .i64 0),(Value.string (ByteArray.mk #[]))]).1 (opNew h 52 #[(Value.int .i64 0),(Value.int .i64 0),(Value.string (ByteArray.mk #[]))]).2) (fun v h=>Q (.pan v) h))) (opNew h 52 #[(Value.int .i64 0),(Value.int .i64 0),(Value.string (ByteArray.mk #[]))]).1 (opNew h 52 #[(Value.int .i64 0),(Value.int .i64 0),(Value.string (ByteArray.mk #[]))]).2
theorem X46_eq (t0:Value) (h:AH) (Q:RQ):X46 t0 h Q=wpC Tryd.prog L46 code46 (argA [t0] Tryd.f46.ntmps) h (retK Tryd.prog res46 Q):=by kernel_rfl
theorem X46_body:Tryd.f46.body=some code46:=by kernel_rfl
theorem X46_ok {t0:Value} {h:AH} {Q:RQ} (H:X46 t0 h Q):HC Tryd.prog 46 [t0].toArray h Q:=HC.body Tryd.func46 X46_body ((X46_eq t0 h Q).mp H)
noncomputable def code48:Code:=match Tryd.f48.body with | some c=>c | none=>.skip
noncomputable def res48:List ResultVar:=Tryd.f48.results.toList
def L48:Nat→Option (List Nat):=fun r=>if r=2 then some [1,11,12,13] else none
noncomputable def H48_2 (t1 t11 t12 t13:Value) (h:AH) (Q:RQ):Prop:=HL Tryd.prog (cAt code48 [.r,.l,.r,.i,.i]) (mkA 24 [(1,t1),(11,t11),(12,t12),(13,t13)]) h (ctxAt Tryd.prog L48 code48 [.r,.l,.r,.i] (retK Tryd.prog res48 Q))
noncomputable def X48_2 (t1 t11 t12 t13:Value) (h:AH) (Q:RQ):Prop :=
 bq (binV Tryd.prog .lss 3 (.tmp 13) (.tmp 12) t13 t12 h) fun t14 =>
 condP (some t14)
 (bq (ia 2 t11 t13) fun t15 =>
 bq (ldN 2 h t15) fun t16 =>
 (fun t7 h =>
 bq (stN 2 h t7 t16) fun h=>(fun _ h =>
 bq (fa 0 1 t7) fun t17 =>
 bq (ld1 h t17) fun t18 =>
 let t19:Value:=t1
 bq (binV Tryd.prog .eql 9 (.tmp 18) (.tmp 19) t18 t19 h) fun t20 =>
 condP (some t20)
 (bq (fa 1 1 t7) fun t21 =>
 bq (ld1 h t21) fun t22 =>
 let t4:Value:=t22
 let t5:Value:=(Value.bool true)
 Q (.ret (.tuple [t4,t5].toArray)) h)
 (bq (binV Tryd.prog .add 3 (.tmp 13) (.const (Value.int .i64 1)) t13 (Value.int .i64 1) h) fun t23 =>
 let t13:Value:=t23
 H48_2 t1 t11 t12 t13 h Q)) undef h) (opNew h 84 #[(Value.string (ByteArray.mk #[])),(Value.int .u8 0)]).1 (opNew h 84 #[(Value.string (ByteArray.mk #[])),(Value.int .u8 0)]).2)
 (let t4:Value:=(Value.int .u8 0)
 let t5:Value:=(Value.bool false)
 Q (.ret (.tuple [t4,t5].toArray)) h)
theorem X48_2_eq (t1 t11 t12 t13:Value) (h:AH) (Q:RQ):X48_2 t1 t11 t12 t13 h Q=wpC Tryd.prog L48 (cAt code48 [.r,.l,.r,.i,.i]) (mkA 24 [(1,t1),(11,t11),(12,t12),(13,t13)]) h (ctxAt Tryd.prog L48 code48 [.r,.l,.r,.i,.i] (retK Tryd.prog res48 Q)):=by kernel_rfl
theorem X48_2_ok {t1 t11 t12 t13:Value} {h:AH} {Q:RQ} (H:X48_2 t1 t11 t12 t13 h Q):H48_2 t1 t11 t12 t13 h Q:=HL.step (L:=L48) ((X48_2_eq t1 t11 t12 t13 h Q).mp H)
noncomputable def X48 (t0 t1:Value) (h:AH) (Q:RQ):Prop :=
 let t4:Value:=(Value.int .u8 0)
 let t5:Value:=(Value.bool false)
 let t8:Value:=t0
 bq (nilV Tryd.prog t8) fun t9 =>
 bq (fa 1 1 t9) fun t10 =>
 bq (ld1 h t10) fun t11 =>
 bq (lenL t11) fun t12 =>
 let t13:Value:=(Value.int .i64 0)
 H48_2 t1 t11 t12 t13 h Q
theorem X48_eq (t0 t1:Value) (h:AH) (Q:RQ):X48 t0 t1 h Q=wpC Tryd.prog L48 code48 (argA [t0,t1] Tryd.f48.ntmps) h (retK Tryd.prog res48 Q):=by kernel_rfl
theorem X48_body:Tryd.f48.body=some code48:=by kernel_rfl
theorem X48_ok {t0 t1:Value} {h:AH} {Q:RQ} (H:X48 t0 t1 h Q):HC Tryd.prog 48 [t0,t1].toArray h Q:=HC.body Tryd.func48 X48_body ((X48_eq t0 t1 h Q).mp H)
noncomputable def code44:Code:=match Tryd.f44.body with | some c=>c | none=>.skip
noncomputable def res44:List ResultVar:=Tryd.f44.results.toList
def L44:Nat→Option (List Nat):=fun r=>if r=5 then some [3] else none
noncomputable def J44_5 (t3:Value) (h:AH) (Q:RQ):Prop:=wpC Tryd.prog L44 (cAt code44 [.r,.r,.r]) (mkA 22 [(3,t3)]) h (ctxAt Tryd.prog L44 code44 [.r,.r,.r] (retK Tryd.prog res44 Q))
noncomputable def K44_5 (t3:Value) (h:AH) (Q:RQ):Prop:=(ctxAt Tryd.prog L44 code44 [.r,.r,.l] (retK Tryd.prog res44 Q)) .normal (mkA 22 [(3,t3)]) h
theorem K44_5_eq (t3:Value) (h:AH) (Q:RQ):J44_5 t3 h Q=K44_5 t3 h Q:=join_eq (p:=[.r,.r]) (code:=code44) (by kernel_rfl) (by kernel_rfl)
noncomputable def X44_5 (t3:Value) (h:AH) (Q:RQ):Prop :=
 bq (fa 2 1 t3) fun t20 =>
 bq (ld1 h t20) fun t21 =>
 let t2:Value:=t21
 Q (.ret t2) h
theorem X44_5_eq (t3:Value) (h:AH) (Q:RQ):X44_5 t3 h Q=wpC Tryd.prog L44 (cAt code44 [.r,.r,.r]) (mkA 22 [(3,t3)]) h (ctxAt Tryd.prog L44 code44 [.r,.r,.r] (retK Tryd.prog res44 Q)):=by kernel_rfl
theorem X44_5_ok {t3:Value} {h:AH} {Q:RQ} (H:X44_5 t3 h Q):K44_5 t3 h Q:=(K44_5_eq t3 h Q).mp (((X44_5_eq t3 h Q).mp H))
noncomputable def X44 (t0:Value) (h:AH) (Q:RQ):Prop :=
 let t2:Value:=(Value.string (ByteArray.mk #[]))
 let t6:Value:=t0
 HC Tryd.prog 46 (([]:List Value)++[t6]++([]:List Value)).toArray h (resK (fun t7 h =>
 (fun t3 h =>
 bq (stN 3 h t3 t7) fun h=>(fun _ h =>
 let t9:Value:=t0
 bq (fa 2 1 t3) fun t10 =>
 bq (ld1 h t10) fun t11 =>
 HC Tryd.prog 48 (([]:List Value)++[t9,t11]++([]:List Value)).toArray h (resK (fun t12 h =>
 let t8:Value:=t12
 bq (opExtract t8 0) fun t13 =>
 bq (opExtract t8 1) fun t14 =>
 let t4:Value:=t13
 let t5:Value:=t14
 let t15:Value:=t5
 condP (some t15)
 (let t16:Value:=t0
 bq (fa 1 1 t3) fun t17 =>
 bq (ld1 h t17) fun t18 =>
 HC Tryd.prog 36 (([]:List Value)++[t16,(Value.int .i64 162),t18]++([]:List Value)).toArray h (resK (fun t19 h =>
 K44_5 t3 h Q) (fun v h=>Q (.pan v) h)))
 (K44_5 t3 h Q)) (fun v h=>Q (.pan v) h))) undef h) (opNew h 52 #[(Value.int .i64 0),(Value.int .i64 0),(Value.string (ByteArray.mk #[]))]).1 (opNew h 52 #[(Value.int .i64 0),(Value.int .i64 0),(Value.string (ByteArray.mk #[]))]).2) (fun v h=>Q (.pan v) h))
theorem X44_eq (t0:Value) (h:AH) (Q:RQ):X44 t0 h Q=wpC Tryd.prog L44 code44 (argA [t0] Tryd.f44.ntmps) h (retK Tryd.prog res44 Q):=by kernel_rfl
theorem X44_body:Tryd.f44.body=some code44:=by kernel_rfl
theorem X44_ok {t0:Value} {h:AH} {Q:RQ} (H:X44 t0 h Q):HC Tryd.prog 44 [t0].toArray h Q:=HC.body Tryd.func44 X44_body ((X44_eq t0 h Q).mp H)
noncomputable def code28:Code:=match Tryd.f28.body with | some c=>c | none=>.skip
noncomputable def res28:List ResultVar:=Tryd.f28.results.toList
def L28:Nat→Option (List Nat):=fun r=>if r=4 then some [4,5] else none
noncomputable def J28_4 (t4 t5:Value) (h:AH) (Q:RQ):Prop:=wpC Tryd.prog L28 (cAt code28 [.r,.r,.r]) (mkA 20 [(4,t4),(5,t5)]) h (ctxAt Tryd.prog L28 code28 [.r,.r,.r] (retK Tryd.prog res28 Q))
noncomputable def K28_4 (t4 t5:Value) (h:AH) (Q:RQ):Prop:=(ctxAt Tryd.prog L28 code28 [.r,.r,.l] (retK Tryd.prog res28 Q)) .normal (mkA 20 [(4,t4),(5,t5)]) h
theorem K28_4_eq (t4 t5:Value) (h:AH) (Q:RQ):J28_4 t4 t5 h Q=K28_4 t4 t5 h Q:=join_eq (p:=[.r,.r]) (code:=code28) (by kernel_rfl) (by kernel_rfl)
noncomputable def X28_4 (t4 t5:Value) (h:AH) (Q:RQ):Prop :=
 bq (ldN 5 h t5) fun t19 =>
 bq (stN 5 h t4 t19) fun h=>(fun _ h =>
 bq (seqO [ldN 5 h t4]) fun vs=>Q (.ret (oneOf vs)) h) undef h
theorem X28_4_eq (t4 t5:Value) (h:AH) (Q:RQ):X28_4 t4 t5 h Q=wpC Tryd.prog L28 (cAt code28 [.r,.r,.r]) (mkA 20 [(4,t4),(5,t5)]) h (ctxAt Tryd.prog L28 code28 [.r,.r,.r] (retK Tryd.prog res28 Q)):=by kernel_rfl
theorem X28_4_ok {t4 t5:Value} {h:AH} {Q:RQ} (H:X28_4 t4 t5 h Q):K28_4 t4 t5 h Q:=(K28_4_eq t4 t5 h Q).mp (((X28_4_eq t4 t5 h Q).mp H))
noncomputable def X28 (t0 t1:Value) (h:AH) (Q:RQ):Prop :=
 (fun t4 h =>
 let t8:Value:=t0
 HC Tryd.prog 39 (([]:List Value)++[t8]++([]:List Value)).toArray h (resK (fun t9 h =>
 let t7:Value:=t9
 bq (opExtract t7 0) fun t10 =>
 bq (opExtract t7 1) fun t11 =>
 (fun t5 h =>
 bq (stN 5 h t5 t10) fun h=>(fun _ h =>
 let t6:Value:=t11
 let t12:Value:=t6
 let t13:Value:=t1
 bq (binV Tryd.prog .neq 5 (.tmp 12) (.tmp 13) t12 t13 h) fun t14 =>
 condP (some t14)
 (let t15:Value:=t0
 bq (fa 1 1 t5) fun t16 =>
 bq (ld1 h t16) fun t17 =>
 HC Tryd.prog 36 (([]:List Value)++[t15,(Value.int .i64 163),t17]++([]:List Value)).toArray h (resK (fun t18 h =>
 K28_4 t4 t5 h Q) (fun v h=>Q (.pan v) h)))
 (K28_4 t4 t5 h Q)) undef h) (opNew h 41 #[(Value.string (ByteArray.mk #[])),(Value.int .i64 0),(Value.int .i64 0),(Value.string (ByteArray.mk #[])),(Value.slice none 0 0)]).1 (opNew h 41 #[(Value.string (ByteArray.mk #[])),(Value.int .i64 0),(Value.int .i64 0),(Value.string (ByteArray.mk #[])),(Value.slice none 0 0)]).2) (fun v h=>Q (.pan v) h))) (opNew h 41 #[(Value.string (ByteArray.mk #[])),(Value.int .i64 0),(Value.int .i64 0),(Value.string (ByteArray.mk #[])),(Value.slice none 0 0)]).1 (opNew h 41 #[(Value.string (ByteArray.mk #[])),(Value.int .i64 0),(Value.int .i64 0),(Value.string (ByteArray.mk #[])),(Value.slice none 0 0)]).2
theorem X28_eq (t0 t1:Value) (h:AH) (Q:RQ):X28 t0 t1 h Q=wpC Tryd.prog L28 code28 (argA [t0,t1] Tryd.f28.ntmps) h (retK Tryd.prog res28 Q):=by kernel_rfl
theorem X28_body:Tryd.f28.body=some code28:=by kernel_rfl
theorem X28_ok {t0 t1:Value} {h:AH} {Q:RQ} (H:X28 t0 t1 h Q):HC Tryd.prog 28 [t0,t1].toArray h Q:=HC.body Tryd.func28 X28_body ((X28_eq t0 t1 h Q).mp H)
noncomputable def code39:Code:=match Tryd.f39.body with | some c=>c | none=>.skip
noncomputable def res39:List ResultVar:=Tryd.f39.results.toList
def L39:Nat→Option (List Nat):=fun r=>if r=16 then some [2,4,7] else none
noncomputable def J39_16 (t2 t4 t7:Value) (h:AH) (Q:RQ):Prop:=wpC Tryd.prog L39 (cAt code39 [.r,.r,.r,.r,.r,.r,.r]) (mkA 64 [(2,t2),(4,t4),(7,t7)]) h (ctxAt Tryd.prog L39 code39 [.r,.r,.r,.r,.r,.r,.r] (retK Tryd.prog res39 Q))
noncomputable def K39_16 (t2 t4 t7:Value) (h:AH) (Q:RQ):Prop:=(ctxAt Tryd.prog L39 code39 [.r,.r,.r,.r,.r,.r,.l] (retK Tryd.prog res39 Q)) .normal (mkA 64 [(2,t2),(4,t4),(7,t7)]) h
theorem K39_16_eq (t2 t4 t7:Value) (h:AH) (Q:RQ):J39_16 t2 t4 t7 h Q=K39_16 t2 t4 t7 h Q:=join_eq (p:=[.r,.r,.r,.r,.r,.r]) (code:=code39) (by kernel_rfl) (by kernel_rfl)
noncomputable def X39_16 (t2 t4 t7:Value) (h:AH) (Q:RQ):Prop :=
 bq (fa 1 1 t4) fun t58 =>
 bq (ld1 h t58) fun t59 =>
 bq (fa 2 1 t4) fun t60 =>
 bq (ld1 h t60) fun t61 =>
 bq (bd #[(Value.string (ByteArray.mk #[])),(Value.int .i64 0),(Value.int .i64 0),(Value.string (ByteArray.mk #[])),(Value.slice none 0 0)] [(0,1,(Value.string (ByteArray.mk #[118,97,114]))),(1,1,t59),(3,1,t61)]) fun t62 =>
 let t63:Value:=t7
 bq (stN 5 h t2 t62) fun h=>(fun _ h =>
 let t3:Value:=t63
 bq (seqO [ldN 5 h t2,some t3]) fun vs=>Q (.ret (oneOf vs)) h) undef h
theorem X39_16_eq (t2 t4 t7:Value) (h:AH) (Q:RQ):X39_16 t2 t4 t7 h Q=wpC Tryd.prog L39 (cAt code39 [.r,.r,.r,.r,.r,.r,.r]) (mkA 64 [(2,t2),(4,t4),(7,t7)]) h (ctxAt Tryd.prog L39 code39 [.r,.r,.r,.r,.r,.r,.r] (retK Tryd.prog res39 Q)):=by kernel_rfl
theorem X39_16_ok {t2 t4 t7:Value} {h:AH} {Q:RQ} (H:X39_16 t2 t4 t7 h Q):K39_16 t2 t4 t7 h Q:=(K39_16_eq t2 t4 t7 h Q).mp (((X39_16_eq t2 t4 t7 h Q).mp H))
noncomputable def X39 (t0:Value) (h:AH) (Q:RQ):Prop :=
 (fun t2 h =>
 let t3:Value:=(Value.int .u8 0)
 let t9:Value:=t0
 HC Tryd.prog 37 (([]:List Value)++[t9]++([]:List Value)).toArray h (resK (fun t10 h =>
 (fun t4 h =>
 bq (stN 3 h t4 t10) fun h=>(fun _ h =>
 bq (fa 0 1 t4) fun t11 =>
 bq (ld1 h t11) fun t12 =>
 bq (binV Tryd.prog .eql 50 (.tmp 12) (.const (Value.int .i64 2)) t12 (Value.int .i64 2) h) fun t14 =>
 let t13:Value:=t14
 condP (some t13)
 (let t15:Value:=t0
 HC Tryd.prog 27 (([]:List Value)++[t15]++([]:List Value)).toArray h (resK (fun t16 h =>
 bq (fa 2 1 t4) fun t18 =>
 bq (ld1 h t18) fun t19 =>
 HC Tryd.prog 45 (([]:List Value)++[t19]++([]:List Value)).toArray h (resK (fun t20 h =>
 let t17:Value:=t20
 bq (opExtract t17 0) fun t21 =>
 bq (opExtract t17 1) fun t22 =>
 let t5:Value:=t21
 let t6:Value:=t22
 bq (fa 1 1 t4) fun t23 =>
 bq (ld1 h t23) fun t24 =>
 let t25:Value:=t5
 bq (bd #[(Value.string (ByteArray.mk #[])),(Value.int .i64 0),(Value.int .i64 0),(Value.string (ByteArray.mk #[])),(Value.slice none 0 0)] [(0,1,(Value.string (ByteArray.mk #[110,117,109,98,101,114]))),(1,1,t24),(2,1,t25)]) fun t26 =>
 bq (stN 5 h t2 t26) fun h=>(fun _ h =>
 let t3:Value:=(Value.int .u8 110)
 bq (seqO [ldN 5 h t2,some t3]) fun vs=>Q (.ret (oneOf vs)) h) undef h) (fun v h=>Q (.pan v) h))) (fun v h=>Q (.pan v) h)))
 (bq (binV Tryd.prog .eql 50 (.tmp 12) (.const (Value.int .i64 3)) t12 (Value.int .i64 3) h) fun t28 =>
 let t27:Value:=t28
 condP (some t27)
 (let t29:Value:=t0
 HC Tryd.prog 27 (([]:List Value)++[t29]++([]:List Value)).toArray h (resK (fun t30 h =>
 bq (fa 1 1 t4) fun t31 =>
 bq (ld1 h t31) fun t32 =>
 bq (fa 2 1 t4) fun t33 =>
 bq (ld1 h t33) fun t34 =>
 bq (bd #[(Value.string (ByteArray.mk #[])),(Value.int .i64 0),(Value.int .i64 0),(Value.string (ByteArray.mk #[])),(Value.slice none 0 0)] [(0,1,(Value.string (ByteArray.mk #[115,116,114,105,110,103]))),(1,1,t32),(3,1,t34)]) fun t35 =>
 bq (stN 5 h t2 t35) fun h=>(fun _ h =>
 let t3:Value:=(Value.int .u8 116)
 bq (seqO [ldN 5 h t2,some t3]) fun vs=>Q (.ret (oneOf vs)) h) undef h) (fun v h=>Q (.pan v) h)))
 (let t36:Value:=t0
 HC Tryd.prog 46 (([]:List Value)++[t36]++([]:List Value)).toArray h (resK (fun t37 h =>
 let t38:Value:=t0
 HC Tryd.prog 26 (([]:List Value)++[t38,(Value.int .i64 4),(Value.string (ByteArray.mk #[40]))]++([]:List Value)).toArray h (resK (fun t39 h =>
 condP (some t39)
 (let t40:Value:=t0
 bq (ldN 3 h t4) fun t41 =>
 HC Tryd.prog 47 (([]:List Value)++[t40,t41]++([]:List Value)).toArray h (resK (fun t42 h =>
 bq (opExtract t42 0) fun t43 =>
 bq (opExtract t42 1) fun t44 =>
 bq (stN 5 h t2 t43) fun h=>(fun _ h =>
 let t3:Value:=t44
 bq (seqO [ldN 5 h t2,some t3]) fun vs=>Q (.ret (oneOf vs)) h) undef h) (fun v h=>Q (.pan v) h)))
 (let t46:Value:=t0
 bq (fa 2 1 t4) fun t47 =>
 bq (ld1 h t47) fun t48 =>
 HC Tryd.prog 48 (([]:List Value)++[t46,t48]++([]:List Value)).toArray h (resK (fun t49 h =>
 let t45:Value:=t49
 bq (opExtract t45 0) fun t50 =>
 bq (opExtract t45 1) fun t51 =>
 let t7:Value:=t50
 let t8:Value:=t51
 let t52:Value:=t8
 bq (unV Tryd.prog .not t52) fun t53 =>
 condP (some t53)
 (let t54:Value:=t0
 bq (fa 1 1 t4) fun t55 =>
 bq (ld1 h t55) fun t56 =>
 HC Tryd.prog 36 (([]:List Value)++[t54,(Value.int .i64 162),t56]++([]:List Value)).toArray h (resK (fun t57 h =>
 K39_16 t2 t4 t7 h Q) (fun v h=>Q (.pan v) h)))
 (K39_16 t2 t4 t7 h Q)) (fun v h=>Q (.pan v) h)))) (fun v h=>Q (.pan v) h))) (fun v h=>Q (.pan v) h))))) undef h) (opNew h 52 #[(Value.int .i64 0),(Value.int .i64 0),(Value.string (ByteArray.mk #[]))]).1 (opNew h 52 #[(Value.int .i64 0),(Value.int .i64 0),(Value.string (ByteArray.mk #[]))]).2) (fun v h=>Q (.pan v) h))) (opNew h 41 #[(Value.string (ByteArray.mk #[])),(Value.int .i64 0),(Value.int .i64 0),(Value.string (ByteArray.mk #[])),(Value.slice none 0 0)]).1 (opNew h 41 #[(Value.string (ByteArray.mk #[])),(Value.int .i64 0),(Value.int .i64 0),(Value.string (ByteArray.mk #[])),(Value.slice none 0 0)]).2
theorem X39_eq (t0:Value) (h:AH) (Q:RQ):X39 t0 h Q=wpC Tryd.prog L39 code39 (argA [t0] Tryd.f39.ntmps) h (retK Tryd.prog res39 Q):=by kernel_rfl
theorem X39_body:Tryd.f39.body=some code39:=by kernel_rfl
theorem X39_ok {t0:Value} {h:AH} {Q:RQ} (H:X39 t0 h Q):HC Tryd.prog 39 [t0].toArray h Q:=HC.body Tryd.func39 X39_body ((X39_eq t0 h Q).mp H)
noncomputable def code47:Code:=match Tryd.f47.body with | some c=>c | none=>.skip
noncomputable def res47:List ResultVar:=Tryd.f47.results.toList
def L47:Nat→Option (List Nat):=fun r=>if r=3 then some [2,3,4] else if r=9 then some [2,3,4,6] else if r=11 then some [2,4,6,8,49,50] else if r=15 then some [2,4,6,8,9,49,50] else none
noncomputable def J47_3 (t2 t3 t4:Value) (D:List Value) (h:AH) (Q:RQ):Prop:=wpC Tryd.prog L47 (cAt code47 [.r,.r]) (mkD 75 D [(2,t2),(3,t3),(4,t4)]) h (ctxAt Tryd.prog L47 code47 [.r,.r] (retD Tryd.prog res47 Q))
noncomputable def K47_3 (t2 t3 t4:Value) (D:List Value) (h:AH) (Q:RQ):Prop:=(ctxAt Tryd.prog L47 code47 [.r,.l] (retD Tryd.prog res47 Q)) .normal (mkD 75 D [(2,t2),(3,t3),(4,t4)]) h
theorem K47_3_eq (t2 t3 t4:Value) (D:List Value) (h:AH) (Q:RQ):J47_3 t2 t3 t4 D h Q=K47_3 t2 t3 t4 D h Q:=join_eq (p:=[.r]) (code:=code47) (by kernel_rfl) (by kernel_rfl)
noncomputable def J47_9 (t2 t3 t4 t6:Value) (D:List Value) (h:AH) (Q:RQ):Prop:=wpC Tryd.prog L47 (cAt code47 [.r,.r,.r,.r,.r,.r,.r]) (mkD 75 D [(2,t2),(3,t3),(4,t4),(6,t6)]) h (ctxAt Tryd.prog L47 code47 [.r,.r,.r,.r,.r,.r,.r] (retD Tryd.prog res47 Q))
noncomputable def K47_9 (t2 t3 t4 t6:Value) (D:List Value) (h:AH) (Q:RQ):Prop:=(ctxAt Tryd.prog L47 code47 [.r,.r,.r,.r,.r,.r,.l] (retD Tryd.prog res47 Q)) .normal (mkD 75 D [(2,t2),(3,t3),(4,t4),(6,t6)]) h
theorem K47_9_eq (t2 t3 t4 t6:Value) (D:List Value) (h:AH) (Q:RQ):J47_9 t2 t3 t4 t6 D h Q=K47_9 t2 t3 t4 t6 D h Q:=join_eq (p:=[.r,.r,.r,.r,.r,.r]) (code:=code47) (by kernel_rfl) (by kernel_rfl)
noncomputable def H47_11 (t2 t4 t6 t8 t49 t50:Value) (D:List Value) (h:AH) (Q:RQ):Prop:=HL Tryd.prog (cAt code47 [.r,.r,.r,.r,.r,.r,.r,.r,.l,.r,.i,.i]) (mkD 75 D [(2,t2),(4,t4),(6,t6),(8,t8),(49,t49),(50,t50)]) h (ctxAt Tryd.prog L47 code47 [.r,.r,.r,.r,.r,.r,.r,.r,.l,.r,.i] (retD Tryd.prog res47 Q))
noncomputable def J47_15 (t2 t4 t6 t8 t9 t49 t50:Value) (D:List Value) (h:AH) (Q:RQ):Prop:=wpC Tryd.prog L47 (cAt code47 (.r::.r::.r::.r::.r::.r::.r::.r::Dir.l::.r::Dir.i::Dir.i::.r::.r::Dir.l::Dir.i::.r::.r::[])) (mkD 75 D [(2,t2),(4,t4),(6,t6),(8,t8),(9,t9),(49,t49),(50,t50)]) h (ctxAt Tryd.prog L47 code47 (.r::.r::.r::.r::.r::.r::.r::.r::Dir.l::.r::Dir.i::Dir.i::.r::.r::Dir.l::Dir.i::.r::.r::[]) (retD Tryd.prog res47 Q))
noncomputable def K47_15 (t2 t4 t6 t8 t9 t49 t50:Value) (D:List Value) (h:AH) (Q:RQ):Prop:=(ctxAt Tryd.prog L47 code47 (.r::.r::.r::.r::.r::.r::.r::.r::Dir.l::.r::Dir.i::Dir.i::.r::.r::Dir.l::Dir.i::.r::Dir.l::[]) (retD Tryd.prog res47 Q)) .normal (mkD 75 D [(2,t2),(4,t4),(6,t6),(8,t8),(9,t9),(49,t49),(50,t50)]) h
theorem K47_15_eq (t2 t4 t6 t8 t9 t49 t50:Value) (D:List Value) (h:AH) (Q:RQ):J47_15 t2 t4 t6 t8 t9 t49 t50 D h Q=K47_15 t2 t4 t6 t8 t9 t49 t50 D h Q:=join_eq (p:=(.r::.r::.r::.r::.r::.r::.r::.r::Dir.l::.r::Dir.i::Dir.i::.r::.r::Dir.l::Dir.i::.r::[])) (code:=code47) (by kernel_rfl) (by kernel_rfl)
noncomputable def X47_15 (t2 t4 t6 t8 t9 t49 t50:Value) (D:List Value) (h:AH) (Q:RQ):Prop :=
 bq (fa 4 1 t8) fun t57 =>
 bq (ld1 h t57) fun t58 =>
 bq (ld1 h t2) fun t59 =>
 bq (fa 1 1 t6) fun t60 =>
 bq (ld1 h t60) fun t61 =>
 let t62:Value:=t9
 bq (ixS t61 t62) fun t63 =>
 HC Tryd.prog 28 (([]:List Value)++[t59,t63]++([]:List Value)).toArray h (resK (fun t64 h =>
 ((bq (ld1 h t57) fun u=>(u=t58))∧(True)) ∧
 bq (bs 41 #[(Value.string (ByteArray.mk #[])),(Value.int .i64 0),(Value.int .i64 0),(Value.string (ByteArray.mk #[])),(Value.slice none 0 0)] 1 h [(0,5,t64)]) fun r=>(fun t65 h =>
 ((bq (ld1 h t57) fun u=>(u=t58))∧(True)) ∧
 bq (apT 41 5 72 (some (Value.agg #[(Value.string (ByteArray.mk #[])),(Value.int .i64 0),(Value.int .i64 0),(Value.string (ByteArray.mk #[])),(Value.slice none 0 0)])) h t58 t65) fun r=>(fun t66 h =>
 (True) ∧
 bq (fa 4 1 t8) fun t67 =>
 bq (stN 1 h t67 t66) fun h=>(fun q15_11 h =>
 (True) ∧
 bq (binV Tryd.prog .add 3 (.tmp 50) (.const (Value.int .i64 1)) t50 (Value.int .i64 1) h) fun t68 =>
 let t50:Value:=t68
 H47_11 t2 t4 t6 t8 t49 t50 D h Q) undef h) r.1 r.2) r.1 r.2) (fun v h=>panD Tryd.prog res47 Q D [some t4,none] v h))
theorem X47_15_eq (t2 t4 t6 t8 t9 t49 t50:Value) (D:List Value) (h:AH) (Q:RQ):X47_15 t2 t4 t6 t8 t9 t49 t50 D h Q=wpC Tryd.prog L47 (cAt code47 (.r::.r::.r::.r::.r::.r::.r::.r::Dir.l::.r::Dir.i::Dir.i::.r::.r::Dir.l::Dir.i::.r::.r::[])) (mkD 75 D [(2,t2),(4,t4),(6,t6),(8,t8),(9,t9),(49,t49),(50,t50)]) h (ctxAt Tryd.prog L47 code47 (.r::.r::.r::.r::.r::.r::.r::.r::Dir.l::.r::Dir.i::Dir.i::.r::.r::Dir.l::Dir.i::.r::.r::[]) (retD Tryd.prog res47 Q)):=by kernel_rfl
theorem X47_15_ok {t2 t4 t6 t8 t9 t49 t50:Value} {D:List Value} {h:AH} {Q:RQ} (H:X47_15 t2 t4 t6 t8 t9 t49 t50 D h Q):K47_15 t2 t4 t6 t8 t9 t49 t50 D h Q:=(K47_15_eq t2 t4 t6 t8 t9 t49 t50 D h Q).mp (((X47_15_eq t2 t4 t6 t8 t9 t49 t50 D h Q).mp H))
noncomputable def X47_11 (t2 t4 t6 t8 t49 t50:Value) (D:List Value) (h:AH) (Q:RQ):Prop :=
 bq (binV Tryd.prog .lss 3 (.tmp 50) (.tmp 49) t50 t49 h) fun t51 =>
 condP (some t51)
 (let t52:Value:=t50
 let t9:Value:=t52
 let t53:Value:=t9
 bq (binV Tryd.prog .gtr 3 (.tmp 53) (.const (Value.int .i64 0)) t53 (Value.int .i64 0) h) fun t54 =>
 condP (some t54)
 (bq (ld1 h t2) fun t55 =>
 HC Tryd.prog 24 (([]:List Value)++[t55,(Value.int .i64 4),(Value.string (ByteArray.mk #[44]))]++([]:List Value)).toArray h (resK (fun t56 h =>
 K47_15 t2 t4 t6 t8 t9 t49 t50 D h Q) (fun v h=>panD Tryd.prog res47 Q D [some t4,none] v h)))
 (K47_15 t2 t4 t6 t8 t9 t49 t50 D h Q))
 (bq (ld1 h t2) fun t69 =>
 HC Tryd.prog 24 (([]:List Value)++[t69,(Value.int .i64 4),(Value.string (ByteArray.mk #[41]))]++([]:List Value)).toArray h (resK (fun t70 h =>
 bq (ldN 5 h t8) fun t71 =>
 bq (fa 2 1 t6) fun t72 =>
 bq (ld1 h t72) fun t73 =>
 bq (ixS t73 (Value.int .i64 0)) fun t74 =>
 bq (stN 5 h t4 t71) fun h=>(fun q18_4 h =>
 ((bq (ld1 h t72) fun u=>(u=t73))∧(True)) ∧
 let t5:Value:=t74
 retV Tryd.prog res47 Q D [some t4,some t5] h) undef h) (fun v h=>panD Tryd.prog res47 Q D [some t4,none] v h)))
theorem X47_11_eq (t2 t4 t6 t8 t49 t50:Value) (D:List Value) (h:AH) (Q:RQ):X47_11 t2 t4 t6 t8 t49 t50 D h Q=wpC Tryd.prog L47 (cAt code47 [.r,.r,.r,.r,.r,.r,.r,.r,.l,.r,.i,.i]) (mkD 75 D [(2,t2),(4,t4),(6,t6),(8,t8),(49,t49),(50,t50)]) h (ctxAt Tryd.prog L47 code47 [.r,.r,.r,.r,.r,.r,.r,.r,.l,.r,.i,.i] (retD Tryd.prog res47 Q)):=by kernel_rfl
theorem X47_11_ok {t2 t4 t6 t8 t49 t50:Value} {D:List Value} {h:AH} {Q:RQ} (H:X47_11 t2 t4 t6 t8 t49 t50 D h Q):H47_11 t2 t4 t6 t8 t49 t50 D h Q:=HL.step (L:=L47) ((X47_11_eq t2 t4 t6 t8 t49 t50 D h Q).mp H)
noncomputable def X47_9 (t2 t3 t4 t6:Value) (D:List Value) (h:AH) (Q:RQ):Prop :=
 bq (fa 2 1 t3) fun t42 =>
 bq (ld1 h t42) fun t43 =>
 bq (fa 1 1 t3) fun t44 =>
 bq (ld1 h t44) fun t45 =>
 bq (bd #[(Value.string (ByteArray.mk #[])),(Value.int .i64 0),(Value.int .i64 0),(Value.string (ByteArray.mk #[])),(Value.slice none 0 0)] [(0,1,t43),(1,1,t45)]) fun t46 =>
 (fun t8 h =>
 bq (stN 5 h t8 t46) fun h=>(fun _ h =>
 bq (fa 1 1 t6) fun t47 =>
 bq (ld1 h t47) fun t48 =>
 bq (lenS t48) fun t49 =>
 let t50:Value:=(Value.int .i64 0)
 H47_11 t2 t4 t6 t8 t49 t50 D h Q) undef h) (opNew h 41 #[(Value.string (ByteArray.mk #[])),(Value.int .i64 0),(Value.int .i64 0),(Value.string (ByteArray.mk #[])),(Value.slice none 0 0)]).1 (opNew h 41 #[(Value.string (ByteArray.mk #[])),(Value.int .i64 0),(Value.int .i64 0),(Value.string (ByteArray.mk #[])),(Value.slice none 0 0)]).2
theorem X47_9_eq (t2 t3 t4 t6:Value) (D:List Value) (h:AH) (Q:RQ):X47_9 t2 t3 t4 t6 D h Q=wpC Tryd.prog L47 (cAt code47 [.r,.r,.r,.r,.r,.r,.r]) (mkD 75 D [(2,t2),(3,t3),(4,t4),(6,t6)]) h (ctxAt Tryd.prog L47 code47 [.r,.r,.r,.r,.r,.r,.r] (retD Tryd.prog res47 Q)):=by kernel_rfl
theorem X47_9_ok {t2 t3 t4 t6:Value} {D:List Value} {h:AH} {Q:RQ} (H:X47_9 t2 t3 t4 t6 D h Q):K47_9 t2 t3 t4 t6 D h Q:=(K47_9_eq t2 t3 t4 t6 D h Q).mp (((X47_9_eq t2 t3 t4 t6 D h Q).mp H))
noncomputable def X47_3 (t2 t3 t4:Value) (D:List Value) (h:AH) (Q:RQ):Prop :=
 bq (ld1 h t2) fun t20 =>
 bq (nilV Tryd.prog t20) fun t21 =>
 bq (fa 4 1 t21) fun t22 =>
 bq (ld1 h t22) fun t23 =>
 bq (binV Tryd.prog .add 3 (.tmp 23) (.const (Value.int .i64 1)) t23 (Value.int .i64 1) h) fun t24 =>
 bq (nilV Tryd.prog t20) fun t25 =>
 bq (fa 4 1 t25) fun t26 =>
 bq (stN 1 h t26 t24) fun h=>(fun _ h =>
 let t27:Value:=(Value.func (.func 52) [].toArray [t2].toArray)
 bq (deferV t27) fun dv4_1 =>
 bq (ld1 h t2) fun t28 =>
 HC Tryd.prog 24 (([]:List Value)++[t28,(Value.int .i64 4),(Value.string (ByteArray.mk #[40]))]++([]:List Value)).toArray h (resK (fun t29 h =>
 bq (fa 2 1 t3) fun t31 =>
 bq (ld1 h t31) fun t32 =>
 HC Tryd.prog 53 (([]:List Value)++[t32]++([]:List Value)).toArray h (resK (fun t33 h =>
 let t30:Value:=t33
 bq (opExtract t30 0) fun t34 =>
 bq (opExtract t30 1) fun t35 =>
 (fun t6 h =>
 bq (stN 3 h t6 t34) fun h=>(fun _ h =>
 let t7:Value:=t35
 let t36:Value:=t7
 bq (unV Tryd.prog .not t36) fun t37 =>
 condP (some t37)
 (bq (ld1 h t2) fun t38 =>
 bq (fa 1 1 t3) fun t39 =>
 bq (ld1 h t39) fun t40 =>
 HC Tryd.prog 36 (([]:List Value)++[t38,(Value.int .i64 162),t40]++([]:List Value)).toArray h (resK (fun t41 h =>
 K47_9 t2 t3 t4 t6 (dv4_1::D) h Q) (fun v h=>panD Tryd.prog res47 Q (dv4_1::D) [some t4,none] v h)))
 (K47_9 t2 t3 t4 t6 (dv4_1::D) h Q)) undef h) (opNew h 113 #[(Value.string (ByteArray.mk #[])),(Value.string (ByteArray.mk #[])),(Value.string (ByteArray.mk #[]))]).1 (opNew h 113 #[(Value.string (ByteArray.mk #[])),(Value.string (ByteArray.mk #[])),(Value.string (ByteArray.mk #[]))]).2) (fun v h=>panD Tryd.prog res47 Q (dv4_1::D) [some t4,none] v h))) (fun v h=>panD Tryd.prog res47 Q (dv4_1::D) [some t4,none] v h))) undef h
theorem X47_3_eq (t2 t3 t4:Value) (D:List Value) (h:AH) (Q:RQ):X47_3 t2 t3 t4 D h Q=wpC Tryd.prog L47 (cAt code47 [.r,.r]) (mkD 75 D [(2,t2),(3,t3),(4,t4)]) h (ctxAt Tryd.prog L47 code47 [.r,.r] (retD Tryd.prog res47 Q)):=by kernel_rfl
theorem X47_3_ok {t2 t3 t4:Value} {D:List Value} {h:AH} {Q:RQ} (H:X47_3 t2 t3 t4 D h Q):K47_3 t2 t3 t4 D h Q:=(K47_3_eq t2 t3 t4 D h Q).mp (((X47_3_eq t2 t3 t4 D h Q).mp H))
noncomputable def X47 (t0 t1:Value) (h:AH) (Q:RQ):Prop :=
 (fun t2 h =>
 (fun t3 h =>
 (fun t4 h =>
 let t5:Value:=(Value.int .u8 0)
 bq (ld1 h t2) fun t10 =>
 bq (nilV Tryd.prog t10) fun t11 =>
 bq (fa 4 1 t11) fun t12 =>
 bq (ld1 h t12) fun t13 =>
 bq (binV Tryd.prog .geq 3 (.tmp 13) (.const (Value.int .i64 8)) t13 (Value.int .i64 8) h) fun t14 =>
 condP (some t14)
 (bq (ld1 h t2) fun t15 =>
 bq (ld1 h t2) fun t16 =>
 HC Tryd.prog 37 (([]:List Value)++[t16]++([]:List Value)).toArray h (resK (fun t17 h =>
 ((bq (ld1 h t2) fun u=>(u=t15))∧(True)) ∧
 bq (fd1 1 t17) fun t18 =>
 HC Tryd.prog 36 (([]:List Value)++[t15,(Value.int .i64 164),t18]++([]:List Value)).toArray h (resK (fun t19 h =>
 (True) ∧
 K47_3 t2 t3 t4 ([]:List Value) h Q) (fun v h=>panD Tryd.prog res47 Q ([]:List Value) [some t4,some t5] v h))) (fun v h=>panD Tryd.prog res47 Q ([]:List Value) [some t4,some t5] v h)))
 (K47_3 t2 t3 t4 ([]:List Value) h Q)) (opNew h 41 #[(Value.string (ByteArray.mk #[])),(Value.int .i64 0),(Value.int .i64 0),(Value.string (ByteArray.mk #[])),(Value.slice none 0 0)]).1 (opNew h 41 #[(Value.string (ByteArray.mk #[])),(Value.int .i64 0),(Value.int .i64 0),(Value.string (ByteArray.mk #[])),(Value.slice none 0 0)]).2) (opNew h 52 t1.cells).1 (opNew h 52 t1.cells).2) (opNew h 49 t0.cells).1 (opNew h 49 t0.cells).2
theorem X47_eq (t0 t1:Value) (h:AH) (Q:RQ):X47 t0 t1 h Q=wpC Tryd.prog L47 code47 (argA [t0,t1] Tryd.f47.ntmps) h (retD Tryd.prog res47 Q):=by kernel_rfl
theorem X47_body:Tryd.f47.body=some code47:=by kernel_rfl
theorem X47_ok {t0 t1:Value} {h:AH} {Q:RQ} (H:X47 t0 t1 h Q):HC Tryd.prog 47 [t0,t1].toArray h Q:=HC.bodyD Tryd.func47 X47_body ((X47_eq t0 t1 h Q).mp H)
noncomputable def code53:Code:=match Tryd.f53.body with | some c=>c | none=>.skip
noncomputable def res53:List ResultVar:=Tryd.f53.results.toList
def L53:Nat→Option (List Nat):=fun r=>if r=2 then some [0,2,6,7] else none
noncomputable def H53_2 (t0 t2 t6 t7:Value) (h:AH) (Q:RQ):Prop:=HL Tryd.prog (cAt code53 [.r,.l,.r,.i,.i]) (mkA 17 [(0,t0),(2,t2),(6,t6),(7,t7)]) h (ctxAt Tryd.prog L53 code53 [.r,.l,.r,.i] (retK Tryd.prog res53 Q))
noncomputable def X53_2 (t0 t2 t6 t7:Value) (h:AH) (Q:RQ):Prop :=
 bq (binV Tryd.prog .lss 3 (.tmp 7) (.const (Value.int .i64 24)) t7 (Value.int .i64 24) h) fun t8 =>
 condP (some t8)
 (bq (opIndex Tryd.prog 123 t6 t7) fun t9 =>
 (fun t5 h =>
 bq (stN 3 h t5 t9) fun h=>(fun _ h =>
 bq (fa 0 1 t5) fun t10 =>
 bq (ld1 h t10) fun t11 =>
 let t12:Value:=t0
 bq (binV Tryd.prog .eql 9 (.tmp 11) (.tmp 12) t11 t12 h) fun t13 =>
 condP (some t13)
 (bq (ldN 3 h t5) fun t14 =>
 bq (stN 3 h t2 t14) fun h=>(fun _ h =>
 let t3:Value:=(Value.bool true)
 bq (seqO [ldN 3 h t2,some t3]) fun vs=>Q (.ret (oneOf vs)) h) undef h)
 (bq (binV Tryd.prog .add 3 (.tmp 7) (.const (Value.int .i64 1)) t7 (Value.int .i64 1) h) fun t15 =>
 let t7:Value:=t15
 H53_2 t0 t2 t6 t7 h Q)) undef h) (opNew h 113 #[(Value.string (ByteArray.mk #[])),(Value.string (ByteArray.mk #[])),(Value.string (ByteArray.mk #[]))]).1 (opNew h 113 #[(Value.string (ByteArray.mk #[])),(Value.string (ByteArray.mk #[])),(Value.string (ByteArray.mk #[]))]).2)
 (bq (bd #[(Value.string (ByteArray.mk #[])),(Value.string (ByteArray.mk #[])),(Value.string (ByteArray.mk #[]))] []) fun t16 =>
 bq (stN 3 h t2 t16) fun h=>(fun _ h =>
 let t3:Value:=(Value.bool false)
 bq (seqO [ldN 3 h t2,some t3]) fun vs=>Q (.ret (oneOf vs)) h) undef h)
theorem X53_2_eq (t0 t2 t6 t7:Value) (h:AH) (Q:RQ):X53_2 t0 t2 t6 t7 h Q=wpC Tryd.prog L53 (cAt code53 [.r,.l,.r,.i,.i]) (mkA 17 [(0,t0),(2,t2),(6,t6),(7,t7)]) h (ctxAt Tryd.prog L53 code53 [.r,.l,.r,.i,.i] (retK Tryd.prog res53 Q)):=by kernel_rfl
theorem X53_2_ok {t0 t2 t6 t7:Value} {h:AH} {Q:RQ} (H:X53_2 t0 t2 t6 t7 h Q):H53_2 t0 t2 t6 t7 h Q:=HL.step (L:=L53) ((X53_2_eq t0 t2 t6 t7 h Q).mp H)
noncomputable def X53 (t0:Value) (h:AH) (Q:RQ):Prop :=
 (fun t2 h =>
 let t3:Value:=(Value.bool false)
 bq (ldN 72 h (Value.pointer (some ⟨1,0,none⟩))) fun t6 =>
 let t7:Value:=(Value.int .i64 0)
 H53_2 t0 t2 t6 t7 h Q) (opNew h 113 #[(Value.string (ByteArray.mk #[])),(Value.string (ByteArray.mk #[])),(Value.string (ByteArray.mk #[]))]).1 (opNew h 113 #[(Value.string (ByteArray.mk #[])),(Value.string (ByteArray.mk #[])),(Value.string (ByteArray.mk #[]))]).2
theorem X53_eq (t0:Value) (h:AH) (Q:RQ):X53 t0 h Q=wpC Tryd.prog L53 code53 (argA [t0] Tryd.f53.ntmps) h (retK Tryd.prog res53 Q):=by kernel_rfl
theorem X53_body:Tryd.f53.body=some code53:=by kernel_rfl
theorem X53_ok {t0:Value} {h:AH} {Q:RQ} (H:X53 t0 h Q):HC Tryd.prog 53 [t0].toArray h Q:=HC.body Tryd.func53 X53_body ((X53_eq t0 h Q).mp H)
noncomputable def code25:Code:=match Tryd.f25.body with | some c=>c | none=>.skip
noncomputable def res25:List ResultVar:=Tryd.f25.results.toList
def L25:Nat→Option (List Nat):=fun r=>if r=4 then some [0,1,2,7] else if r=6 then some [0,2,7] else if r=12 then some [0,7,8,9] else none
noncomputable def J25_4 (t0 t1 t2 t7:Value) (h:AH) (Q:RQ):Prop:=wpC Tryd.prog L25 (cAt code25 [.r,.r,.r]) (mkA 101 [(0,t0),(1,t1),(2,t2),(7,t7)]) h (ctxAt Tryd.prog L25 code25 [.r,.r,.r] (retK Tryd.prog res25 Q))
noncomputable def K25_4 (t0 t1 t2 t7:Value) (h:AH) (Q:RQ):Prop:=(ctxAt Tryd.prog L25 code25 [.r,.r,.l] (retK Tryd.prog res25 Q)) .normal (mkA 101 [(0,t0),(1,t1),(2,t2),(7,t7)]) h
theorem K25_4_eq (t0 t1 t2 t7:Value) (h:AH) (Q:RQ):J25_4 t0 t1 t2 t7 h Q=K25_4 t0 t1 t2 t7 h Q:=join_eq (p:=[.r,.r]) (code:=code25) (by kernel_rfl) (by kernel_rfl)
noncomputable def J25_6 (t0 t2 t7:Value) (h:AH) (Q:RQ):Prop:=wpC Tryd.prog L25 (cAt code25 [.r,.r,.r,.r]) (mkA 101 [(0,t0),(2,t2),(7,t7)]) h (ctxAt Tryd.prog L25 code25 [.r,.r,.r,.r] (retK Tryd.prog res25 Q))
noncomputable def K25_6 (t0 t2 t7:Value) (h:AH) (Q:RQ):Prop:=(ctxAt Tryd.prog L25 code25 [.r,.r,.r,.l] (retK Tryd.prog res25 Q)) .normal (mkA 101 [(0,t0),(2,t2),(7,t7)]) h
theorem K25_6_eq (t0 t2 t7:Value) (h:AH) (Q:RQ):J25_6 t0 t2 t7 h Q=K25_6 t0 t2 t7 h Q:=join_eq (p:=[.r,.r,.r]) (code:=code25) (by kernel_rfl) (by kernel_rfl)
noncomputable def H25_12 (t0 t7 t8 t9:Value) (h:AH) (Q:RQ):Prop:=HL Tryd.prog (cAt code25 [.r,.r,.r,.r,.r,.r,.r,.r,.r,.r,.l,.i,.i]) (mkA 101 [(0,t0),(7,t7),(8,t8),(9,t9)]) h (ctxAt Tryd.prog L25 code25 [.r,.r,.r,.r,.r,.r,.r,.r,.r,.r,.l,.i] (retK Tryd.prog res25 Q))
noncomputable def X25_12 (t0 t7 t8 t9:Value) (h:AH) (Q:RQ):Prop :=
 let t66:Value:=t0
 HC Tryd.prog 26 (([]:List Value)++[t66,(Value.int .i64 4),(Value.string (ByteArray.mk #[125]))]++([]:List Value)).toArray h (resK (fun t67 h =>
 bq (unV Tryd.prog .not t67) fun t68 =>
 condP (some t68)
 (let t69:Value:=t9
 let t70:Value:=t0
 HC Tryd.prog 38 (([]:List Value)++[t70]++([]:List Value)).toArray h (resK (fun t71 h =>
 bq (bs 76 #[(Value.string (ByteArray.mk #[])),(Value.string (ByteArray.mk #[])),(Value.string (ByteArray.mk #[])),(Value.int .i64 0),(Value.int .i64 0),(Value.string (ByteArray.mk #[])),(Value.slice none 0 0),(Value.string (ByteArray.mk #[])),(Value.int .i64 0),(Value.int .i64 0),(Value.string (ByteArray.mk #[])),(Value.slice none 0 0),(Value.slice none 0 0),(Value.slice none 0 0)] 1 h [(0,14,t71)]) fun r=>(fun t72 h =>
 bq (apT 76 14 224 (some (Value.agg #[(Value.string (ByteArray.mk #[])),(Value.string (ByteArray.mk #[])),(Value.string (ByteArray.mk #[])),(Value.int .i64 0),(Value.int .i64 0),(Value.string (ByteArray.mk #[])),(Value.slice none 0 0),(Value.string (ByteArray.mk #[])),(Value.int .i64 0),(Value.int .i64 0),(Value.string (ByteArray.mk #[])),(Value.slice none 0 0),(Value.slice none 0 0),(Value.slice none 0 0)])) h t69 t72) fun r=>(fun t73 h =>
 let t9:Value:=t73
 H25_12 t0 t7 t8 t9 h Q) r.1 r.2) r.1 r.2) (fun v h=>Q (.pan v) h)))
 (let t74:Value:=t0
 HC Tryd.prog 27 (([]:List Value)++[t74]++([]:List Value)).toArray h (resK (fun t75 h =>
 let t76:Value:=t0
 let t77:Value:=t0
 bq (nilV Tryd.prog t77) fun t78 =>
 bq (fa 1 1 t78) fun t79 =>
 bq (ld1 h t79) fun t80 =>
 let t81:Value:=t8
 bq (sliceV Tryd.prog h 53 t80 none (some t81)) fun t82 =>
 bq (nilV Tryd.prog t76) fun t83 =>
 bq (fa 1 1 t83) fun t84 =>
 bq (stN 1 h t84 t82) fun h=>(fun _ h =>
 let t85:Value:=t0
 bq (nilV Tryd.prog t85) fun t86 =>
 bq (fa 2 1 t86) fun t87 =>
 bq (ld1 h t87) fun t88 =>
 bq (binV Tryd.prog .sub 3 (.tmp 88) (.const (Value.int .i64 1)) t88 (Value.int .i64 1) h) fun t89 =>
 bq (nilV Tryd.prog t85) fun t90 =>
 bq (fa 2 1 t90) fun t91 =>
 bq (stN 1 h t91 t89) fun h=>(fun _ h =>
 let t92:Value:=t0
 bq (nilV Tryd.prog t92) fun t93 =>
 bq (fa 3 1 t93) fun t94 =>
 bq (ld1 h t94) fun t95 =>
 let t96:Value:=t7
 bq (binV Tryd.prog .sub 3 (.tmp 95) (.tmp 96) t95 t96 h) fun t97 =>
 bq (nilV Tryd.prog t92) fun t98 =>
 bq (fa 3 1 t98) fun t99 =>
 bq (stN 1 h t99 t97) fun h=>(fun _ h =>
 let t100:Value:=t9
 let t6:Value:=t100
 Q (.ret t6) h) undef h) undef h) undef h) (fun v h=>Q (.pan v) h)))) (fun v h=>Q (.pan v) h))
theorem X25_12_eq (t0 t7 t8 t9:Value) (h:AH) (Q:RQ):X25_12 t0 t7 t8 t9 h Q=wpC Tryd.prog L25 (cAt code25 [.r,.r,.r,.r,.r,.r,.r,.r,.r,.r,.l,.i,.i]) (mkA 101 [(0,t0),(7,t7),(8,t8),(9,t9)]) h (ctxAt Tryd.prog L25 code25 [.r,.r,.r,.r,.r,.r,.r,.r,.r,.r,.l,.i,.i] (retK Tryd.prog res25 Q)):=by kernel_rfl
theorem X25_12_ok {t0 t7 t8 t9:Value} {h:AH} {Q:RQ} (H:X25_12 t0 t7 t8 t9 h Q):H25_12 t0 t7 t8 t9 h Q:=HL.step (L:=L25) ((X25_12_eq t0 t7 t8 t9 h Q).mp H)
noncomputable def X25_6 (t0 t2 t7:Value) (h:AH) (Q:RQ):Prop :=
 let t35:Value:=t0
 HC Tryd.prog 24 (([]:List Value)++[t35,(Value.int .i64 4),(Value.string (ByteArray.mk #[123]))]++([]:List Value)).toArray h (resK (fun t36 h =>
 let t37:Value:=t0
 bq (nilV Tryd.prog t37) fun t38 =>
 bq (fa 2 1 t38) fun t39 =>
 bq (ld1 h t39) fun t40 =>
 bq (binV Tryd.prog .add 3 (.tmp 40) (.const (Value.int .i64 1)) t40 (Value.int .i64 1) h) fun t41 =>
 bq (nilV Tryd.prog t37) fun t42 =>
 bq (fa 2 1 t42) fun t43 =>
 bq (stN 1 h t43 t41) fun h=>(fun _ h =>
 let t44:Value:=t0
 bq (nilV Tryd.prog t44) fun t45 =>
 bq (fa 3 1 t45) fun t46 =>
 bq (ld1 h t46) fun t47 =>
 let t48:Value:=t7
 bq (binV Tryd.prog .add 3 (.tmp 47) (.tmp 48) t47 t48 h) fun t49 =>
 bq (nilV Tryd.prog t44) fun t50 =>
 bq (fa 3 1 t50) fun t51 =>
 bq (stN 1 h t51 t49) fun h=>(fun _ h =>
 let t52:Value:=t0
 bq (nilV Tryd.prog t52) fun t53 =>
 bq (fa 1 1 t53) fun t54 =>
 bq (ld1 h t54) fun t55 =>
 bq (lenL t55) fun t56 =>
 let t8:Value:=t56
 let t57:Value:=t0
 let t58:Value:=t0
 bq (nilV Tryd.prog t58) fun t59 =>
 bq (fa 1 1 t59) fun t60 =>
 bq (ld1 h t60) fun t61 =>
 let t62:Value:=t2
 bq (apT 84 2 24 (some (Value.agg #[(Value.string (ByteArray.mk #[])),(Value.int .u8 0)])) h t61 t62) fun r=>(fun t63 h =>
 bq (nilV Tryd.prog t57) fun t64 =>
 bq (fa 1 1 t64) fun t65 =>
 bq (stN 1 h t65 t63) fun h=>(fun _ h =>
 let t9:Value:=(Value.slice none 0 0)
 H25_12 t0 t7 t8 t9 h Q) undef h) r.1 r.2) undef h) undef h) (fun v h=>Q (.pan v) h))
theorem X25_6_eq (t0 t2 t7:Value) (h:AH) (Q:RQ):X25_6 t0 t2 t7 h Q=wpC Tryd.prog L25 (cAt code25 [.r,.r,.r,.r]) (mkA 101 [(0,t0),(2,t2),(7,t7)]) h (ctxAt Tryd.prog L25 code25 [.r,.r,.r,.r] (retK Tryd.prog res25 Q)):=by kernel_rfl
theorem X25_6_ok {t0 t2 t7:Value} {h:AH} {Q:RQ} (H:X25_6 t0 t2 t7 h Q):K25_6 t0 t2 t7 h Q:=(K25_6_eq t0 t2 t7 h Q).mp (((X25_6_eq t0 t2 t7 h Q).mp H))
noncomputable def X25_4 (t0 t1 t2 t7:Value) (h:AH) (Q:RQ):Prop :=
 let t11:Value:=t0
 HC Tryd.prog 26 (([]:List Value)++[t11,(Value.int .i64 4),(Value.string (ByteArray.mk #[123]))]++([]:List Value)).toArray h (resK (fun t12 h =>
 let t13:Value:=t12
 guardQ t13 true h (fun k=>k t0 h) fun t14 h =>
 guardQ t13 true h (fun k=>bq (nilV Tryd.prog t14) fun v=>k v h) fun t15 h =>
 guardQ t13 true h (fun k=>bq (fa 2 1 t15) fun v=>k v h) fun t16 h =>
 guardQ t13 true h (fun k=>bq (ld1 h t16) fun v=>k v h) fun t17 h =>
 guardQ t13 true h (fun k=>bq (binV Tryd.prog .geq 3 (.tmp 17) (.const (Value.int .i64 8)) t17 (Value.int .i64 8) h) fun v=>k v h) fun t18 h =>
 guardQ t13 true h (fun k=>k t18 h) fun t19 h =>
 guardQ t19 false h (fun k=>k t1 h) fun t20 h =>
 guardQ t19 false h (fun k=>k t20 h) fun t21 h =>
 guardQ t21 true h (fun k=>k t0 h) fun t22 h =>
 guardQ t21 true h (fun k=>bq (nilV Tryd.prog t22) fun v=>k v h) fun t23 h =>
 guardQ t21 true h (fun k=>bq (fa 3 1 t23) fun v=>k v h) fun t24 h =>
 guardQ t21 true h (fun k=>bq (ld1 h t24) fun v=>k v h) fun t25 h =>
 guardQ t21 true h (fun k=>bq (binV Tryd.prog .geq 3 (.tmp 25) (.const (Value.int .i64 2)) t25 (Value.int .i64 2) h) fun v=>k v h) fun t26 h =>
 guardQ t19 false h (fun k=>bq (pickV t21 t26 (Value.bool false)) fun v=>k v h) fun t27 h =>
 guardQ t13 true h (fun k=>bq (pickV t19 (Value.bool true) t27) fun v=>k v h) fun t28 h =>
 bq (pickV t13 t28 (Value.bool false)) fun t29 =>
 condP (some t29)
 (let t30:Value:=t0
 let t31:Value:=t0
 HC Tryd.prog 37 (([]:List Value)++[t31]++([]:List Value)).toArray h (resK (fun t32 h =>
 bq (fd1 1 t32) fun t33 =>
 HC Tryd.prog 36 (([]:List Value)++[t30,(Value.int .i64 164),t33]++([]:List Value)).toArray h (resK (fun t34 h =>
 K25_6 t0 t2 t7 h Q) (fun v h=>Q (.pan v) h))) (fun v h=>Q (.pan v) h)))
 (K25_6 t0 t2 t7 h Q)) (fun v h=>Q (.pan v) h))
theorem X25_4_eq (t0 t1 t2 t7:Value) (h:AH) (Q:RQ):X25_4 t0 t1 t2 t7 h Q=wpC Tryd.prog L25 (cAt code25 [.r,.r,.r]) (mkA 101 [(0,t0),(1,t1),(2,t2),(7,t7)]) h (ctxAt Tryd.prog L25 code25 [.r,.r,.r] (retK Tryd.prog res25 Q)):=by kernel_rfl
theorem X25_4_ok {t0 t1 t2 t7:Value} {h:AH} {Q:RQ} (H:X25_4 t0 t1 t2 t7 h Q):K25_4 t0 t1 t2 t7 h Q:=(K25_4_eq t0 t1 t2 t7 h Q).mp (((X25_4_eq t0 t1 t2 t7 h Q).mp H))
noncomputable def X25 (t0 t1 t2:Value) (h:AH) (Q:RQ):Prop :=
 let t6:Value:=(Value.slice none 0 0)
 let t7:Value:=(Value.int .i64 0)
 let t10:Value:=t1
 condP (some t10)
 (let t7:Value:=(Value.int .i64 1)
 K25_4 t0 t1 t2 t7 h Q)
 (K25_4 t0 t1 t2 t7 h Q)
theorem X25_eq (t0 t1 t2:Value) (h:AH) (Q:RQ):X25 t0 t1 t2 h Q=wpC Tryd.prog L25 code25 (argA [t0,t1,t2] Tryd.f25.ntmps) h (retK Tryd.prog res25 Q):=by kernel_rfl
theorem X25_body:Tryd.f25.body=some code25:=by kernel_rfl
theorem X25_ok {t0 t1 t2:Value} {h:AH} {Q:RQ} (H:X25 t0 t1 t2 h Q):HC Tryd.prog 25 [t0,t1,t2].toArray h Q:=HC.body Tryd.func25 X25_body ((X25_eq t0 t1 t2 h Q).mp H)
noncomputable def code11:Code:=match Tryd.f11.body with | some c=>c | none=>.skip
noncomputable def res11:List ResultVar:=Tryd.f11.results.toList
def L11:Nat→Option (List Nat):=fun r=>if r=9 then some [0,3,4] else if r=17 then some [0,4] else none
noncomputable def J11_9 (t0 t3 t4:Value) (h:AH) (Q:RQ):Prop:=wpC Tryd.prog L11 (cAt code11 [.r,.r,.r,.r,.r,.r]) (mkA 64 [(0,t0),(3,t3),(4,t4)]) h (ctxAt Tryd.prog L11 code11 [.r,.r,.r,.r,.r,.r] (retK Tryd.prog res11 Q))
noncomputable def K11_9 (t0 t3 t4:Value) (h:AH) (Q:RQ):Prop:=(ctxAt Tryd.prog L11 code11 [.r,.r,.r,.r,.r,.l] (retK Tryd.prog res11 Q)) .normal (mkA 64 [(0,t0),(3,t3),(4,t4)]) h
theorem K11_9_eq (t0 t3 t4:Value) (h:AH) (Q:RQ):J11_9 t0 t3 t4 h Q=K11_9 t0 t3 t4 h Q:=join_eq (p:=[.r,.r,.r,.r,.r]) (code:=code11) (by kernel_rfl) (by kernel_rfl)
noncomputable def J11_17 (t0 t4:Value) (h:AH) (Q:RQ):Prop:=wpC Tryd.prog L11 (cAt code11 [.r,.r,.r,.r,.r,.r,.r,.r,.r]) (mkA 64 [(0,t0),(4,t4)]) h (ctxAt Tryd.prog L11 code11 [.r,.r,.r,.r,.r,.r,.r,.r,.r] (retK Tryd.prog res11 Q))
noncomputable def K11_17 (t0 t4:Value) (h:AH) (Q:RQ):Prop:=(ctxAt Tryd.prog L11 code11 [.r,.r,.r,.r,.r,.r,.r,.r,.l] (retK Tryd.prog res11 Q)) .normal (mkA 64 [(0,t0),(4,t4)]) h
theorem K11_17_eq (t0 t4:Value) (h:AH) (Q:RQ):J11_17 t0 t4 h Q=K11_17 t0 t4 h Q:=join_eq (p:=[.r,.r,.r,.r,.r,.r,.r,.r]) (code:=code11) (by kernel_rfl) (by kernel_rfl)
noncomputable def X11_17 (t0 t4:Value) (h:AH) (Q:RQ):Prop :=
 let t61:Value:=t0
 HC Tryd.prog 24 (([]:List Value)++[t61,(Value.int .i64 0),(Value.string (ByteArray.mk #[]))]++([]:List Value)).toArray h (resK (fun t62 h =>
 let t63:Value:=t4
 let t2:Value:=t63
 Q (.ret t2) h) (fun v h=>Q (.pan v) h))
theorem X11_17_eq (t0 t4:Value) (h:AH) (Q:RQ):X11_17 t0 t4 h Q=wpC Tryd.prog L11 (cAt code11 [.r,.r,.r,.r,.r,.r,.r,.r,.r]) (mkA 64 [(0,t0),(4,t4)]) h (ctxAt Tryd.prog L11 code11 [.r,.r,.r,.r,.r,.r,.r,.r,.r] (retK Tryd.prog res11 Q)):=by kernel_rfl
theorem X11_17_ok {t0 t4:Value} {h:AH} {Q:RQ} (H:X11_17 t0 t4 h Q):K11_17 t0 t4 h Q:=(K11_17_eq t0 t4 h Q).mp (((X11_17_eq t0 t4 h Q).mp H))
noncomputable def X11_9 (t0 t3 t4:Value) (h:AH) (Q:RQ):Prop :=
 let t33:Value:=t0
 HC Tryd.prog 24 (([]:List Value)++[t33,(Value.int .i64 1),(Value.string (ByteArray.mk #[114,101,100,117,99,101]))]++([]:List Value)).toArray h (resK (fun t34 h =>
 let t35:Value:=t4
 let t36:Value:=t0
 let t37:Value:=t3
 HC Tryd.prog 25 (([]:List Value)++[t36,(Value.bool false),t37]++([]:List Value)).toArray h (resK (fun t38 h =>
 bq (nilV Tryd.prog t35) fun t39 =>
 bq (fa 2 1 t39) fun t40 =>
 bq (stN 1 h t40 t38) fun h=>(fun _ h =>
 let t41:Value:=t0
 HC Tryd.prog 26 (([]:List Value)++[t41,(Value.int .i64 1),(Value.string (ByteArray.mk #[112,97,114,116]))]++([]:List Value)).toArray h (resK (fun t42 h =>
 condP (some t42)
 (let t43:Value:=t0
 HC Tryd.prog 27 (([]:List Value)++[t43]++([]:List Value)).toArray h (resK (fun t44 h =>
 let t45:Value:=t4
 bq (nilV Tryd.prog t45) fun t46 =>
 bq (fa 4 1 t46) fun t47 =>
 bq (stN 1 h t47 (Value.bool true)) fun h=>(fun _ h =>
 let t48:Value:=t0
 bq (bd #[(Value.string (ByteArray.mk #[])),(Value.int .u8 0)] [(0,1,(Value.string (ByteArray.mk #[107,101,121]))),(1,1,(Value.int .u8 116))]) fun t49 =>
 bq (bd #[(Value.string (ByteArray.mk #[])),(Value.int .u8 0)] [(0,1,(Value.string (ByteArray.mk #[112,97,114,116,115]))),(1,1,(Value.int .u8 110))]) fun t50 =>
 bq (bs 84 #[(Value.string (ByteArray.mk #[])),(Value.int .u8 0),(Value.string (ByteArray.mk #[])),(Value.int .u8 0)] 2 h [(0,2,t49),(2,2,t50)]) fun r=>(fun t51 h =>
 bq (nilV Tryd.prog t48) fun t52 =>
 bq (fa 1 1 t52) fun t53 =>
 bq (stN 1 h t53 t51) fun h=>(fun _ h =>
 let t54:Value:=t4
 let t55:Value:=t0
 HC Tryd.prog 28 (([]:List Value)++[t55,(Value.int .u8 110)]++([]:List Value)).toArray h (resK (fun t56 h =>
 bq (nilV Tryd.prog t54) fun t57 =>
 bq (fa 5 5 t57) fun t58 =>
 bq (stN 5 h t58 t56) fun h=>(fun _ h =>
 let t59:Value:=t0
 HC Tryd.prog 24 (([]:List Value)++[t59,(Value.int .i64 4),(Value.string (ByteArray.mk #[59]))]++([]:List Value)).toArray h (resK (fun t60 h =>
 K11_17 t0 t4 h Q) (fun v h=>Q (.pan v) h))) undef h) (fun v h=>Q (.pan v) h))) undef h) r.1 r.2) undef h) (fun v h=>Q (.pan v) h)))
 (K11_17 t0 t4 h Q)) (fun v h=>Q (.pan v) h))) undef h) (fun v h=>Q (.pan v) h))) (fun v h=>Q (.pan v) h))
theorem X11_9_eq (t0 t3 t4:Value) (h:AH) (Q:RQ):X11_9 t0 t3 t4 h Q=wpC Tryd.prog L11 (cAt code11 [.r,.r,.r,.r,.r,.r]) (mkA 64 [(0,t0),(3,t3),(4,t4)]) h (ctxAt Tryd.prog L11 code11 [.r,.r,.r,.r,.r,.r] (retK Tryd.prog res11 Q)):=by kernel_rfl
theorem X11_9_ok {t0 t3 t4:Value} {h:AH} {Q:RQ} (H:X11_9 t0 t3 t4 h Q):K11_9 t0 t3 t4 h Q:=(K11_9_eq t0 t3 t4 h Q).mp (((X11_9_eq t0 t3 t4 h Q).mp H))
noncomputable def X11 (t0:Value) (h:AH) (Q:RQ):Prop :=
 let t2:Value:=(Value.pointer none)
 bq (bd #[(Value.string (ByteArray.mk #[])),(Value.int .u8 0)] [(0,1,(Value.string (ByteArray.mk #[107,101,121]))),(1,1,(Value.int .u8 116))]) fun t5 =>
 bq (bd #[(Value.string (ByteArray.mk #[])),(Value.int .u8 0)] [(0,1,(Value.string (ByteArray.mk #[118,97,108,117,101,115]))),(1,1,(Value.int .u8 108))]) fun t6 =>
 bq (bs 84 #[(Value.string (ByteArray.mk #[])),(Value.int .u8 0),(Value.string (ByteArray.mk #[])),(Value.int .u8 0)] 2 h [(0,2,t5),(2,2,t6)]) fun r=>(fun t7 h =>
 let t3:Value:=t7
 bq (bd #[(Value.slice none 0 0),(Value.slice none 0 0),(Value.slice none 0 0),(Value.bool false),(Value.bool false),(Value.string (ByteArray.mk #[])),(Value.int .i64 0),(Value.int .i64 0),(Value.string (ByteArray.mk #[])),(Value.slice none 0 0)] []) fun t8 =>
 (fun t9 h =>
 let t4:Value:=t9
 let t10:Value:=t0
 HC Tryd.prog 24 (([]:List Value)++[t10,(Value.int .i64 1),(Value.string (ByteArray.mk #[109,97,112]))]++([]:List Value)).toArray h (resK (fun t11 h =>
 let t12:Value:=t4
 let t13:Value:=t0
 bq (bd #[(Value.string (ByteArray.mk #[])),(Value.int .u8 0)] [(0,1,(Value.string (ByteArray.mk #[107,101,121]))),(1,1,(Value.int .u8 116))]) fun t14 =>
 bq (bd #[(Value.string (ByteArray.mk #[])),(Value.int .u8 0)] [(0,1,(Value.string (ByteArray.mk #[118,97,108,117,101]))),(1,1,(Value.int .u8 116))]) fun t15 =>
 bq (bs 84 #[(Value.string (ByteArray.mk #[])),(Value.int .u8 0),(Value.string (ByteArray.mk #[])),(Value.int .u8 0)] 2 h [(0,2,t14),(2,2,t15)]) fun r=>(fun t16 h =>
 HC Tryd.prog 25 (([]:List Value)++[t13,(Value.bool false),t16]++([]:List Value)).toArray h (resK (fun t17 h =>
 bq (nilV Tryd.prog t12) fun t18 =>
 bq (fa 0 1 t18) fun t19 =>
 bq (stN 1 h t19 t17) fun h=>(fun _ h =>
 let t20:Value:=t0
 HC Tryd.prog 26 (([]:List Value)++[t20,(Value.int .i64 1),(Value.string (ByteArray.mk #[99,111,109,98,105,110,101]))]++([]:List Value)).toArray h (resK (fun t21 h =>
 condP (some t21)
 (let t22:Value:=t0
 HC Tryd.prog 27 (([]:List Value)++[t22]++([]:List Value)).toArray h (resK (fun t23 h =>
 let t24:Value:=t4
 bq (nilV Tryd.prog t24) fun t25 =>
 bq (fa 3 1 t25) fun t26 =>
 bq (stN 1 h t26 (Value.bool true)) fun h=>(fun _ h =>
 let t27:Value:=t4
 let t28:Value:=t0
 let t29:Value:=t3
 HC Tryd.prog 25 (([]:List Value)++[t28,(Value.bool false),t29]++([]:List Value)).toArray h (resK (fun t30 h =>
 bq (nilV Tryd.prog t27) fun t31 =>
 bq (fa 1 1 t31) fun t32 =>
 bq (stN 1 h t32 t30) fun h=>(fun _ h =>
 K11_9 t0 t3 t4 h Q) undef h) (fun v h=>Q (.pan v) h))) undef h) (fun v h=>Q (.pan v) h)))
 (K11_9 t0 t3 t4 h Q)) (fun v h=>Q (.pan v) h))) undef h) (fun v h=>Q (.pan v) h))) r.1 r.2) (fun v h=>Q (.pan v) h))) (opNew h 43 t8.cells).1 (opNew h 43 t8.cells).2) r.1 r.2
theorem X11_eq (t0:Value) (h:AH) (Q:RQ):X11 t0 h Q=wpC Tryd.prog L11 code11 (argA [t0] Tryd.f11.ntmps) h (retK Tryd.prog res11 Q):=by kernel_rfl
theorem X11_body:Tryd.f11.body=some code11:=by kernel_rfl
theorem X11_ok {t0:Value} {h:AH} {Q:RQ} (H:X11 t0 h Q):HC Tryd.prog 11 [t0].toArray h Q:=HC.body Tryd.func11 X11_body ((X11_eq t0 h Q).mp H)
noncomputable def code5:Code:=match Tryd.f5.body with | some c=>c | none=>.skip
noncomputable def res5:List ResultVar:=Tryd.f5.results.toList
def L5:Nat→Option (List Nat):=fun r=>none
noncomputable def X5 (t0:Value) (h:AH) (Q:RQ):Prop :=
 (fun t2 h =>
 (fun t3 h =>
 let t6:Value:=t0
 bq (lenS t6) fun t7 =>
 bq (binV Tryd.prog .gtr 3 (.tmp 7) (.const (Value.int .i64 4096)) t7 (Value.int .i64 4096) h) fun t8 =>
 condP (some t8)
 (bq (bd #[(Value.int .i64 0),(Value.int .i64 0)] [(0,1,(Value.int .i64 1))]) fun t9 =>
 bq (stN 1 h t2 (Value.pointer none)) fun h=>(fun _ h =>
 bq (stN 2 h t3 t9) fun h=>(fun _ h =>
 retV Tryd.prog res5 Q ([]:List Value) [some t2,some t3] h) undef h) undef h)
 (let t11:Value:=t0
 HC Tryd.prog 9 (([]:List Value)++[t11]++([]:List Value)).toArray h (resK (fun t12 h =>
 let t10:Value:=t12
 bq (opExtract t10 0) fun t13 =>
 bq (opExtract t10 1) fun t14 =>
 let t4:Value:=t13
 bq (stN 2 h t3 t14) fun h=>(fun _ h =>
 bq (ldN 2 h t3) fun t15 =>
 bq (bd #[(Value.int .i64 0),(Value.int .i64 0)] []) fun t16 =>
 bq (binV Tryd.prog .neq 26 (.tmp 15) (.tmp 16) t15 t16 h) fun t17 =>
 condP (some t17)
 (bq (ldN 2 h t3) fun t18 =>
 bq (stN 1 h t2 (Value.pointer none)) fun h=>(fun q5_1 h =>
 ((bq (ldN 2 h t3) fun u=>(u=t18))∧(True)) ∧
 bq (stN 2 h t3 t18) fun h=>(fun q5_2 h =>
 (True) ∧
 retV Tryd.prog res5 Q ([]:List Value) [some t2,some t3] h) undef h) undef h)
 (let t19:Value:=(Value.func (.func 10) [].toArray [t2,t3].toArray)
 bq (deferV t19) fun dv6_1 =>
 let t20:Value:=t4
 let t21:Value:=t4
 let t22:Value:=t4
 bq (lenL t22) fun t23 =>
 bq (binV Tryd.prog .sub 3 (.tmp 23) (.const (Value.int .i64 1)) t23 (Value.int .i64 1) h) fun t24 =>
 bq (ia 3 t21 t24) fun t25 =>
 bq (ldN 3 h t25) fun t26 =>
 bq (bs 52 #[(Value.int .i64 0),(Value.int .i64 0),(Value.string (ByteArray.mk #[]))] 1 h [(0,3,t26)]) fun r=>(fun t27 h =>
 bq (apT 52 3 32 (some (Value.agg #[(Value.int .i64 0),(Value.int .i64 0),(Value.string (ByteArray.mk #[]))])) h t20 t27) fun r=>(fun t28 h =>
 bq (bd #[(Value.slice none 0 0),(Value.slice none 0 0),(Value.int .i64 0),(Value.int .i64 0),(Value.int .i64 0)] [(0,1,t28)]) fun t29 =>
 (fun t30 h =>
 let t5:Value:=t30
 let t31:Value:=t5
 HC Tryd.prog 11 (([]:List Value)++[t31]++([]:List Value)).toArray h (resK (fun t32 h =>
 bq (bd #[(Value.int .i64 0),(Value.int .i64 0)] []) fun t33 =>
 bq (stN 1 h t2 t32) fun h=>(fun _ h =>
 bq (stN 2 h t3 t33) fun h=>(fun _ h =>
 retV Tryd.prog res5 Q (dv6_1::([]:List Value)) [some t2,some t3] h) undef h) undef h) (fun v h=>panD Tryd.prog res5 Q (dv6_1::([]:List Value)) [some t2,some t3] v h))) (opNew h 55 t29.cells).1 (opNew h 55 t29.cells).2) r.1 r.2) r.1 r.2)) undef h) (fun v h=>panD Tryd.prog res5 Q ([]:List Value) [some t2,some t3] v h)))) (opNew h 26 #[(Value.int .i64 0),(Value.int .i64 0)]).1 (opNew h 26 #[(Value.int .i64 0),(Value.int .i64 0)]).2) (opNew h 23 #[(Value.pointer none)]).1 (opNew h 23 #[(Value.pointer none)]).2
theorem X5_eq (t0:Value) (h:AH) (Q:RQ):X5 t0 h Q=wpC Tryd.prog L5 code5 (argA [t0] Tryd.f5.ntmps) h (retD Tryd.prog res5 Q):=by kernel_rfl
theorem X5_body:Tryd.f5.body=some code5:=by kernel_rfl
theorem X5_ok {t0:Value} {h:AH} {Q:RQ} (H:X5 t0 h Q):HC Tryd.prog 5 [t0].toArray h Q:=HC.bodyD Tryd.func5 X5_body ((X5_eq t0 h Q).mp H)
end Go.Proofs.YtnaenhkldanjbaaDoor.X
end
