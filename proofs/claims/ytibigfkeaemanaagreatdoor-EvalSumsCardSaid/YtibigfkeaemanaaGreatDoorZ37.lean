import Derived.KernelRfl
import Derived.Test.YtibigfkeaemanaaGreatDoorProg
import Derived.Test.YtibigfkeaemanaaGreatDoorZ15
import Derived.Test.YtibigfkeaemanaaGreatDoorZ31
import Derived.Test.YtibigfkeaemanaaGreatDoorZ36
set_option linter.unusedVariables false
set_option linter.unusedSimpArgs false
section
namespace Go.Proofs.YtibigfkeaemanaaGreatDoor.X
open Go.Ab
set_option maxRecDepth 100000
noncomputable def code4:Code:=match Tryz.f4.body with | some c=>c | none=>.skip
noncomputable def res4:List ResultVar:=Tryz.f4.results.toList
def L4:Nat→Option (List Nat):=fun r=>if r=7 then some [0,1,5,7,8,9] else if r=8 then some [0,1,5,7,8,9] else if r=10 then some [0,1,5,7,8,9,10] else if r=16 then some [0,1,5,7,8,9] else if r=24 then some [0,1,5,8,11,12,13] else if r=25 then some [0,1,5,8,11,12,13] else none
noncomputable def H4_7 (t0 t1 t5 t7 t8 t9:Value) (h:AH) (Q:RQ):Prop:=HL Tryz.prog (cAt code4 [.r,.r,.r,.r,.r,.l,.r,.i,.i]) (mkA 123 [(0,t0),(1,t1),(5,t5),(7,t7),(8,t8),(9,t9)]) h (ctxAt Tryz.prog L4 code4 [.r,.r,.r,.r,.r,.l,.r,.i] (retK Tryz.prog res4 Q))
noncomputable def X4 (t0 t1:Value) (h:AH) (Q:RQ):Prop :=
 let t4:Value:=(Value.bool false)
 HC Tryz.prog 12 (([]:List Value)++[]++([]:List Value)).toArray h (resK (fun t15 h =>
 bq (unV Tryz.prog .not t15) fun t16 =>
 condP (some t16)
 (let t4:Value:=(Value.bool false)
 Q (.ret t4) h)
 (HC Tryz.prog 7 (([]:List Value)++[(Value.string (ByteArray.mk #[109,97,112,32,123,32,101,97,99,104,32,119,32,105,110,32,118,97,108,117,101,32,98,121,32,34,32,34,32,123,32,101,109,105,116,32,119,44,32,34,49,34,59,32,125,32,125,32,114,101,100,117,99,101,32,123,32,101,109,105,116,32,107,101,121,44,32,116,101,120,116,40,115,117,109,40,118,97,108,117,101,115,41,41,59,32,125]))]++([]:List Value)).toArray h (resK (fun t18 h =>
 let t17:Value:=t18
 bq (opExtract t17 0) fun t19 =>
 bq (opExtract t17 1) fun t20 =>
 (fun t6 h =>
 let t5:Value:=t19
 bq (stN 2 h t6 t20) fun h=>(fun _ h =>
 let t7:Value:=(Value.string (ByteArray.mk #[]))
 let t8:Value:=(Value.int .i64 0)
 let t9:Value:=(Value.int .i64 0)
 H4_7 t0 t1 t5 t7 t8 t9 h Q) undef h) (opNew h 25 #[(Value.int .i64 0),(Value.int .i64 0)]).1 (opNew h 25 #[(Value.int .i64 0),(Value.int .i64 0)]).2) (fun v h=>Q (.pan v) h)))) (fun v h=>Q (.pan v) h))
noncomputable def code5:Code:=match Tryz.f5.body with | some c=>c | none=>.skip
noncomputable def res5:List ResultVar:=Tryz.f5.results.toList
def L5:Nat→Option (List Nat):=fun r=>if r=13 then some [0,1,7,8,9,10] else if r=15 then some [0,1,7,8,9,10] else if r=17 then some [0,1,7,8,9,10] else none
noncomputable def J5_13 (t0 t1 t7 t8 t9 t10:Value) (h:AH) (Q:RQ):Prop:=wpC Tryz.prog L5 (cAt code5 [.r,.r,.r,.r,.r,.r,.r,.r,.r]) (mkA 88 [(0,t0),(1,t1),(7,t7),(8,t8),(9,t9),(10,t10)]) h (ctxAt Tryz.prog L5 code5 [.r,.r,.r,.r,.r,.r,.r,.r,.r] (retK Tryz.prog res5 Q))
noncomputable def K5_13 (t0 t1 t7 t8 t9 t10:Value) (h:AH) (Q:RQ):Prop:=(ctxAt Tryz.prog L5 code5 [.r,.r,.r,.r,.r,.r,.r,.r,.l] (retK Tryz.prog res5 Q)) .normal (mkA 88 [(0,t0),(1,t1),(7,t7),(8,t8),(9,t9),(10,t10)]) h
theorem K5_13_eq (t0 t1 t7 t8 t9 t10:Value) (h:AH) (Q:RQ):J5_13 t0 t1 t7 t8 t9 t10 h Q=K5_13 t0 t1 t7 t8 t9 t10 h Q:=join_eq (p:=[.r,.r,.r,.r,.r,.r,.r,.r]) (code:=code5) (by kernel_rfl) (by kernel_rfl)
noncomputable def J5_15 (t0 t1 t7 t8 t9 t10:Value) (h:AH) (Q:RQ):Prop:=wpC Tryz.prog L5 (cAt code5 [.r,.r,.r,.r,.r,.r,.r,.r,.r,.r]) (mkA 88 [(0,t0),(1,t1),(7,t7),(8,t8),(9,t9),(10,t10)]) h (ctxAt Tryz.prog L5 code5 [.r,.r,.r,.r,.r,.r,.r,.r,.r,.r] (retK Tryz.prog res5 Q))
noncomputable def K5_15 (t0 t1 t7 t8 t9 t10:Value) (h:AH) (Q:RQ):Prop:=(ctxAt Tryz.prog L5 code5 [.r,.r,.r,.r,.r,.r,.r,.r,.r,.l] (retK Tryz.prog res5 Q)) .normal (mkA 88 [(0,t0),(1,t1),(7,t7),(8,t8),(9,t9),(10,t10)]) h
theorem K5_15_eq (t0 t1 t7 t8 t9 t10:Value) (h:AH) (Q:RQ):J5_15 t0 t1 t7 t8 t9 t10 h Q=K5_15 t0 t1 t7 t8 t9 t10 h Q:=join_eq (p:=[.r,.r,.r,.r,.r,.r,.r,.r,.r]) (code:=code5) (by kernel_rfl) (by kernel_rfl)
noncomputable def J5_17 (t0 t1 t7 t8 t9 t10:Value) (h:AH) (Q:RQ):Prop:=wpC Tryz.prog L5 (cAt code5 [.r,.r,.r,.r,.r,.r,.r,.r,.r,.r,.r]) (mkA 88 [(0,t0),(1,t1),(7,t7),(8,t8),(9,t9),(10,t10)]) h (ctxAt Tryz.prog L5 code5 [.r,.r,.r,.r,.r,.r,.r,.r,.r,.r,.r] (retK Tryz.prog res5 Q))
noncomputable def K5_17 (t0 t1 t7 t8 t9 t10:Value) (h:AH) (Q:RQ):Prop:=(ctxAt Tryz.prog L5 code5 [.r,.r,.r,.r,.r,.r,.r,.r,.r,.r,.l] (retK Tryz.prog res5 Q)) .normal (mkA 88 [(0,t0),(1,t1),(7,t7),(8,t8),(9,t9),(10,t10)]) h
theorem K5_17_eq (t0 t1 t7 t8 t9 t10:Value) (h:AH) (Q:RQ):J5_17 t0 t1 t7 t8 t9 t10 h Q=K5_17 t0 t1 t7 t8 t9 t10 h Q:=join_eq (p:=[.r,.r,.r,.r,.r,.r,.r,.r,.r,.r]) (code:=code5) (by kernel_rfl) (by kernel_rfl)
noncomputable def X5_17 (t0 t1 t7 t8 t9 t10:Value) (h:AH) (Q:RQ):Prop :=
 let t44:Value:=t7
 bq (ia 2 t44 (Value.int .i64 0)) fun t45 =>
 bq (ldN 2 h t45) fun t46 =>
 let t47:Value:=t0
 let t48:Value:=t1
 bq (binV Tryz.prog .add 3 (.tmp 47) (.tmp 48) t47 t48 h) fun t49 =>
 let t51:Value:=t0
 let t52:Value:=t1
 bq (binV Tryz.prog .sub 3 (.tmp 51) (.tmp 52) t51 t52 h) fun t53 =>
 HC Tryz.prog 14 (([]:List Value)++[t49]++([]:List Value)).toArray h (resK (fun t50 h =>
 ((bq (binV Tryz.prog .sub 3 (.tmp 51) (.tmp 52) t51 t52 h) fun u=>(u=t53))∧((bq (ldN 2 h t45) fun u=>(u=t46))∧(True))) ∧
 HC Tryz.prog 14 (([]:List Value)++[t53]++([]:List Value)).toArray h (resK (fun t54 h =>
 ((bq (ldN 2 h t45) fun u=>(u=t46))∧(True)) ∧
 bq (bd #[(Value.string (ByteArray.mk #[])),(Value.string (ByteArray.mk #[]))] [(0,1,t50),(1,1,t54)]) fun t55 =>
 bq (binV Tryz.prog .eql 40 (.tmp 46) (.tmp 55) t46 t55 h) fun t56 =>
 let t57:Value:=t56
 guardQ t57 true h (fun k=>k t7 h) fun t58 h =>
 guardQ t57 true h (fun k=>bq (ia 2 t58 (Value.int .i64 1)) fun v=>k v h) fun t59 h =>
 guardQ t57 true h (fun k=>bq (ldN 2 h t59) fun v=>k v h) fun t60 h =>
 guardQ t57 true h (fun k=>k t0 h) fun t61 h =>
 guardQ t57 true h (fun k=>k t1 h) fun t62 h =>
 guardQ t57 true h (fun k=>bq (binV Tryz.prog .mul 3 (.tmp 61) (.tmp 62) t61 t62 h) fun v=>k v h) fun t63 h =>
 guardQ t57 true h (fun k=>k t8 h) fun t65 h =>
 guardQ t57 true h (fun k=>HC Tryz.prog 14 (([]:List Value)++[t63]++([]:List Value)).toArray h (resK k (fun v h=>Q (.pan v) h))) fun t64 h =>
 ((guardQ t57 true h (fun k=>bq (ldN 2 h t59) fun v=>k v h) fun u _=>(u=t60))∧(True)) ∧
 guardQ t57 true h (fun k=>HC Tryz.prog 14 (([]:List Value)++[t65]++([]:List Value)).toArray h (resK k (fun v h=>Q (.pan v) h))) fun t66 h =>
 ((guardQ t57 true h (fun k=>bq (ldN 2 h t59) fun v=>k v h) fun u _=>(u=t60))∧(True)) ∧
 guardQ t57 true h (fun k=>bq (bd #[(Value.string (ByteArray.mk #[])),(Value.string (ByteArray.mk #[]))] [(0,1,t64),(1,1,t66)]) fun v=>k v h) fun t67 h =>
 guardQ t57 true h (fun k=>bq (binV Tryz.prog .eql 40 (.tmp 60) (.tmp 67) t60 t67 h) fun v=>k v h) fun t68 h =>
 bq (pickV t57 t68 (Value.bool false)) fun t69 =>
 let t70:Value:=t69
 guardQ t70 true h (fun k=>k t7 h) fun t71 h =>
 guardQ t70 true h (fun k=>bq (ia 2 t71 (Value.int .i64 2)) fun v=>k v h) fun t72 h =>
 guardQ t70 true h (fun k=>bq (ldN 2 h t72) fun v=>k v h) fun t73 h =>
 guardQ t70 true h (fun k=>k t9 h) fun t74 h =>
 guardQ t70 true h (fun k=>k t10 h) fun t75 h =>
 guardQ t70 true h (fun k=>bq (bd #[(Value.string (ByteArray.mk #[])),(Value.string (ByteArray.mk #[]))] [(0,1,t74),(1,1,t75)]) fun v=>k v h) fun t76 h =>
 guardQ t70 true h (fun k=>bq (binV Tryz.prog .eql 40 (.tmp 73) (.tmp 76) t73 t76 h) fun v=>k v h) fun t77 h =>
 bq (pickV t70 t77 (Value.bool false)) fun t78 =>
 let t79:Value:=t78
 guardQ t79 true h (fun k=>k t7 h) fun t80 h =>
 guardQ t79 true h (fun k=>bq (ia 2 t80 (Value.int .i64 3)) fun v=>k v h) fun t81 h =>
 guardQ t79 true h (fun k=>bq (ldN 2 h t81) fun v=>k v h) fun t82 h =>
 guardQ t79 true h (fun k=>k t0 h) fun t83 h =>
 guardQ t79 true h (fun k=>HC Tryz.prog 14 (([]:List Value)++[t83]++([]:List Value)).toArray h (resK k (fun v h=>Q (.pan v) h))) fun t84 h =>
 ((guardQ t79 true h (fun k=>bq (ldN 2 h t81) fun v=>k v h) fun u _=>(u=t82))∧(True)) ∧
 guardQ t79 true h (fun k=>bq (bd #[(Value.string (ByteArray.mk #[])),(Value.string (ByteArray.mk #[]))] [(0,1,t84),(1,1,(Value.string (ByteArray.mk #[49])))]) fun v=>k v h) fun t85 h =>
 guardQ t79 true h (fun k=>bq (binV Tryz.prog .eql 40 (.tmp 82) (.tmp 85) t82 t85 h) fun v=>k v h) fun t86 h =>
 bq (pickV t79 t86 (Value.bool false)) fun t87 =>
 let t4:Value:=t87
 Q (.ret t4) h) (fun v h=>Q (.pan v) h))) (fun v h=>Q (.pan v) h))
theorem X5_17_eq (t0 t1 t7 t8 t9 t10:Value) (h:AH) (Q:RQ):X5_17 t0 t1 t7 t8 t9 t10 h Q=wpC Tryz.prog L5 (cAt code5 [.r,.r,.r,.r,.r,.r,.r,.r,.r,.r,.r]) (mkA 88 [(0,t0),(1,t1),(7,t7),(8,t8),(9,t9),(10,t10)]) h (ctxAt Tryz.prog L5 code5 [.r,.r,.r,.r,.r,.r,.r,.r,.r,.r,.r] (retK Tryz.prog res5 Q)):=by kernel_rfl
theorem X5_17_ok {t0 t1 t7 t8 t9 t10:Value} {h:AH} {Q:RQ} (H:X5_17 t0 t1 t7 t8 t9 t10 h Q):K5_17 t0 t1 t7 t8 t9 t10 h Q:=(K5_17_eq t0 t1 t7 t8 t9 t10 h Q).mp (((X5_17_eq t0 t1 t7 t8 t9 t10 h Q).mp H))
noncomputable def X5_15 (t0 t1 t7 t8 t9 t10:Value) (h:AH) (Q:RQ):Prop :=
 let t41:Value:=t0
 let t42:Value:=t1
 bq (binV Tryz.prog .eql 3 (.tmp 41) (.tmp 42) t41 t42 h) fun t43 =>
 condP (some t43)
 (let t10:Value:=(Value.string (ByteArray.mk #[49]))
 K5_17 t0 t1 t7 t8 t9 t10 h Q)
 (K5_17 t0 t1 t7 t8 t9 t10 h Q)
theorem X5_15_eq (t0 t1 t7 t8 t9 t10:Value) (h:AH) (Q:RQ):X5_15 t0 t1 t7 t8 t9 t10 h Q=wpC Tryz.prog L5 (cAt code5 [.r,.r,.r,.r,.r,.r,.r,.r,.r,.r]) (mkA 88 [(0,t0),(1,t1),(7,t7),(8,t8),(9,t9),(10,t10)]) h (ctxAt Tryz.prog L5 code5 [.r,.r,.r,.r,.r,.r,.r,.r,.r,.r] (retK Tryz.prog res5 Q)):=by kernel_rfl
theorem X5_15_ok {t0 t1 t7 t8 t9 t10:Value} {h:AH} {Q:RQ} (H:X5_15 t0 t1 t7 t8 t9 t10 h Q):K5_15 t0 t1 t7 t8 t9 t10 h Q:=(K5_15_eq t0 t1 t7 t8 t9 t10 h Q).mp (((X5_15_eq t0 t1 t7 t8 t9 t10 h Q).mp H))
noncomputable def X5_13 (t0 t1 t7 t8 t9 t10:Value) (h:AH) (Q:RQ):Prop :=
 let t38:Value:=t0
 let t39:Value:=t1
 bq (binV Tryz.prog .lss 3 (.tmp 38) (.tmp 39) t38 t39 h) fun t40 =>
 condP (some t40)
 (let t9:Value:=(Value.string (ByteArray.mk #[49]))
 K5_15 t0 t1 t7 t8 t9 t10 h Q)
 (K5_15 t0 t1 t7 t8 t9 t10 h Q)
theorem X5_13_eq (t0 t1 t7 t8 t9 t10:Value) (h:AH) (Q:RQ):X5_13 t0 t1 t7 t8 t9 t10 h Q=wpC Tryz.prog L5 (cAt code5 [.r,.r,.r,.r,.r,.r,.r,.r,.r]) (mkA 88 [(0,t0),(1,t1),(7,t7),(8,t8),(9,t9),(10,t10)]) h (ctxAt Tryz.prog L5 code5 [.r,.r,.r,.r,.r,.r,.r,.r,.r] (retK Tryz.prog res5 Q)):=by kernel_rfl
theorem X5_13_ok {t0 t1 t7 t8 t9 t10:Value} {h:AH} {Q:RQ} (H:X5_13 t0 t1 t7 t8 t9 t10 h Q):K5_13 t0 t1 t7 t8 t9 t10 h Q:=(K5_13_eq t0 t1 t7 t8 t9 t10 h Q).mp (((X5_13_eq t0 t1 t7 t8 t9 t10 h Q).mp H))
noncomputable def X5 (t0 t1:Value) (h:AH) (Q:RQ):Prop :=
 let t4:Value:=(Value.bool false)
 HC Tryz.prog 12 (([]:List Value)++[]++([]:List Value)).toArray h (resK (fun t11 h =>
 bq (unV Tryz.prog .not t11) fun t12 =>
 condP (some t12)
 (let t4:Value:=(Value.bool false)
 Q (.ret t4) h)
 (let t13:Value:=t0
 bq (binV Tryz.prog .rem 3 (.tmp 13) (.const (Value.int .i64 100000)) t13 (Value.int .i64 100000) h) fun t14 =>
 let t15:Value:=t1
 bq (binV Tryz.prog .rem 3 (.tmp 15) (.const (Value.int .i64 100000)) t15 (Value.int .i64 100000) h) fun t16 =>
 let t0:Value:=t14
 let t1:Value:=t16
 HC Tryz.prog 7 (([]:List Value)++[(Value.string (ByteArray.mk #[109,97,112,32,123,32,108,101,116,32,97,32,61,32,110,117,109,40,107,101,121,41,59,32,108,101,116,32,98,32,61,32,110,117,109,40,118,97,108,117,101,41,59,32,101,109,105,116,32,116,101,120,116,40,97,100,100,40,97,44,32,98,41,41,44,32,116,101,120,116,40,115,117,98,40,97,44,32,98,41,41,59,32,101,109,105,116,32,116,101,120,116,40,109,117,108,40,97,44,32,98,41,41,44,32,116,101,120,116,40,100,105,118,40,97,44,32,98,41,41,59,32,101,109,105,116,32,116,101,120,116,40,108,116,40,97,44,32,98,41,41,44,32,116,101,120,116,40,101,113,40,107,101,121,44,32,118,97,108,117,101,41,41,59,32,101,109,105,116,32,116,101,120,116,40,97,100,100,40,109,117,108,40,100,105,118,40,97,44,32,98,41,44,32,98,41,44,32,115,117,98,40,97,44,32,109,117,108,40,100,105,118,40,97,44,32,98,41,44,32,98,41,41,41,41,44,32,116,101,120,116,40,111,114,40,108,116,40,97,44,32,98,41,44,32,111,114,40,108,116,40,98,44,32,97,41,44,32,101,113,40,116,101,120,116,40,97,41,44,32,116,101,120,116,40,98,41,41,41,41,41,59,32,125,32,114,101,100,117,99,101,32,123,32,125]))]++([]:List Value)).toArray h (resK (fun t18 h =>
 let t17:Value:=t18
 bq (opExtract t17 0) fun t19 =>
 bq (opExtract t17 1) fun t20 =>
 (fun t6 h =>
 let t5:Value:=t19
 bq (stN 2 h t6 t20) fun h=>(fun _ h =>
 bq (ldN 2 h t6) fun t21 =>
 bq (bd #[(Value.int .i64 0),(Value.int .i64 0)] []) fun t22 =>
 bq (binV Tryz.prog .neq 25 (.tmp 21) (.tmp 22) t21 t22 h) fun t23 =>
 condP (some t23)
 (let t4:Value:=(Value.bool false)
 Q (.ret t4) h)
 (let t24:Value:=t5
 let t25:Value:=t0
 HC Tryz.prog 14 (([]:List Value)++[t25]++([]:List Value)).toArray h (resK (fun t26 h =>
 let t27:Value:=t1
 HC Tryz.prog 14 (([]:List Value)++[t27]++([]:List Value)).toArray h (resK (fun t28 h =>
 HC Tryz.prog 8 (([]:List Value)++[t24,t26,t28]++([]:List Value)).toArray h (resK (fun t29 h =>
 let t7:Value:=t29
 let t30:Value:=t7
 bq (lenL t30) fun t31 =>
 bq (binV Tryz.prog .neq 3 (.tmp 31) (.const (Value.int .i64 4)) t31 (Value.int .i64 4) h) fun t32 =>
 condP (some t32)
 (let t4:Value:=(Value.bool false)
 Q (.ret t4) h)
 (let t8:Value:=(Value.int .i64 0)
 let t9:Value:=(Value.string (ByteArray.mk #[48]))
 let t10:Value:=(Value.string (ByteArray.mk #[48]))
 let t33:Value:=t1
 bq (binV Tryz.prog .neq 3 (.tmp 33) (.const (Value.int .i64 0)) t33 (Value.int .i64 0) h) fun t34 =>
 condP (some t34)
 (let t35:Value:=t0
 let t36:Value:=t1
 bq (binV Tryz.prog .quo 3 (.tmp 35) (.tmp 36) t35 t36 h) fun t37 =>
 let t8:Value:=t37
 K5_13 t0 t1 t7 t8 t9 t10 h Q)
 (K5_13 t0 t1 t7 t8 t9 t10 h Q))) (fun v h=>Q (.pan v) h))) (fun v h=>Q (.pan v) h))) (fun v h=>Q (.pan v) h)))) undef h) (opNew h 25 #[(Value.int .i64 0),(Value.int .i64 0)]).1 (opNew h 25 #[(Value.int .i64 0),(Value.int .i64 0)]).2) (fun v h=>Q (.pan v) h)))) (fun v h=>Q (.pan v) h))
theorem X5_eq (t0 t1:Value) (h:AH) (Q:RQ):X5 t0 t1 h Q=wpC Tryz.prog L5 code5 (argA [t0,t1] Tryz.f5.ntmps) h (retK Tryz.prog res5 Q):=by kernel_rfl
theorem X5_body:Tryz.f5.body=some code5:=by kernel_rfl
theorem X5_ok {t0 t1:Value} {h:AH} {Q:RQ} (H:X5 t0 t1 h Q):HC Tryz.prog 5 [t0,t1].toArray h Q:=HC.body Tryz.func5 X5_body ((X5_eq t0 t1 h Q).mp H)
noncomputable def code12:Code:=match Tryz.f12.body with | some c=>c | none=>.skip
noncomputable def res12:List ResultVar:=Tryz.f12.results.toList
def L12:Nat→Option (List Nat):=fun r=>none
noncomputable def X12 (h:AH) (Q:RQ):Prop :=
 let t0:Value:=(Value.bool false)
 HC Tryz.prog 7 (([]:List Value)++[(Value.string (ByteArray.mk #[109,97,112,32,123,32,101,97,99,104,32,119,32,105,110,32,118,97,108,117,101,32,98,121,32,34,32,34,32,123,32,101,109,105,116,32,119,44,32,34,49,34,59,32,125,32,125,32,114,101,100,117,99,101,32,123,32,101,109,105,116,32,107,101,121,44,32,116,101,120,116,40,115,117,109,40,118,97,108,117,101,115,41,41,59,32,125]))]++([]:List Value)).toArray h (resK (fun t6 h =>
 let t5:Value:=t6
 bq (opExtract t5 0) fun t7 =>
 bq (opExtract t5 1) fun t8 =>
 (fun t2 h =>
 let t1:Value:=t7
 bq (stN 2 h t2 t8) fun h=>(fun _ h =>
 let t9:Value:=t1
 HC Tryz.prog 8 (([]:List Value)++[t9,(Value.string (ByteArray.mk #[])),(Value.string (ByteArray.mk #[97,32,98]))]++([]:List Value)).toArray h (resK (fun t10 h =>
 let t3:Value:=t10
 let t11:Value:=t1
 bq (bs 9 #[(Value.string (ByteArray.mk #[])),(Value.string (ByteArray.mk #[]))] 2 h [(0,1,(Value.string (ByteArray.mk #[49]))),(1,1,(Value.string (ByteArray.mk #[49])))]) fun r=>(fun t12 h =>
 HC Tryz.prog 13 (([]:List Value)++[t11,(Value.string (ByteArray.mk #[97])),t12]++([]:List Value)).toArray h (resK (fun t13 h =>
 let t4:Value:=t13
 let t14:Value:=t3
 bq (lenL t14) fun t15 =>
 bq (binV Tryz.prog .eql 3 (.tmp 15) (.const (Value.int .i64 2)) t15 (Value.int .i64 2) h) fun t16 =>
 let t17:Value:=t16
 guardQ t17 true h (fun k=>k t3 h) fun t18 h =>
 guardQ t17 true h (fun k=>bq (ia 2 t18 (Value.int .i64 1)) fun v=>k v h) fun t19 h =>
 guardQ t17 true h (fun k=>bq (ldN 2 h t19) fun v=>k v h) fun t20 h =>
 guardQ t17 true h (fun k=>bq (bd #[(Value.string (ByteArray.mk #[])),(Value.string (ByteArray.mk #[]))] [(0,1,(Value.string (ByteArray.mk #[98]))),(1,1,(Value.string (ByteArray.mk #[49])))]) fun v=>k v h) fun t21 h =>
 guardQ t17 true h (fun k=>bq (binV Tryz.prog .eql 40 (.tmp 20) (.tmp 21) t20 t21 h) fun v=>k v h) fun t22 h =>
 bq (pickV t17 t22 (Value.bool false)) fun t23 =>
 let t24:Value:=t23
 guardQ t24 true h (fun k=>k t4 h) fun t25 h =>
 guardQ t24 true h (fun k=>bq (lenL t25) fun v=>k v h) fun t26 h =>
 guardQ t24 true h (fun k=>bq (binV Tryz.prog .eql 3 (.tmp 26) (.const (Value.int .i64 1)) t26 (Value.int .i64 1) h) fun v=>k v h) fun t27 h =>
 bq (pickV t24 t27 (Value.bool false)) fun t28 =>
 let t29:Value:=t28
 guardQ t29 true h (fun k=>k t4 h) fun t30 h =>
 guardQ t29 true h (fun k=>bq (ia 2 t30 (Value.int .i64 0)) fun v=>k v h) fun t31 h =>
 guardQ t29 true h (fun k=>bq (ldN 2 h t31) fun v=>k v h) fun t32 h =>
 guardQ t29 true h (fun k=>bq (bd #[(Value.string (ByteArray.mk #[])),(Value.string (ByteArray.mk #[]))] [(0,1,(Value.string (ByteArray.mk #[97]))),(1,1,(Value.string (ByteArray.mk #[50])))]) fun v=>k v h) fun t33 h =>
 guardQ t29 true h (fun k=>bq (binV Tryz.prog .eql 40 (.tmp 32) (.tmp 33) t32 t33 h) fun v=>k v h) fun t34 h =>
 bq (pickV t29 t34 (Value.bool false)) fun t35 =>
 let t0:Value:=t35
 Q (.ret t0) h) (fun v h=>Q (.pan v) h))) r.1 r.2) (fun v h=>Q (.pan v) h))) undef h) (opNew h 25 #[(Value.int .i64 0),(Value.int .i64 0)]).1 (opNew h 25 #[(Value.int .i64 0),(Value.int .i64 0)]).2) (fun v h=>Q (.pan v) h))
theorem X12_eq (h:AH) (Q:RQ):X12  h Q=wpC Tryz.prog L12 code12 (argA [] Tryz.f12.ntmps) h (retK Tryz.prog res12 Q):=by kernel_rfl
theorem X12_body:Tryz.f12.body=some code12:=by kernel_rfl
theorem X12_ok {h:AH} {Q:RQ} (H:X12  h Q):HC Tryz.prog 12 [].toArray h Q:=HC.body Tryz.func12 X12_body ((X12_eq  h Q).mp H)
noncomputable def code14:Code:=match Tryz.f14.body with | some c=>c | none=>.skip
noncomputable def res14:List ResultVar:=Tryz.f14.results.toList
def L14:Nat→Option (List Nat):=fun r=>none
noncomputable def X14 (t0:Value) (h:AH) (Q:RQ):Prop :=
 let t2:Value:=(Value.string (ByteArray.mk #[]))
 let t3:Value:=t0
 bq (binV Tryz.prog .lss 3 (.tmp 3) (.const (Value.int .i64 0)) t3 (Value.int .i64 0) h) fun t4 =>
 condP (some t4)
 (let t5:Value:=t0
 bq (unV Tryz.prog .neg t5) fun t6 =>
 HC Tryz.prog 14 (([]:List Value)++[t6]++([]:List Value)).toArray h (resK (fun t7 h =>
 bq (binV Tryz.prog .add 9 (.const (Value.string (ByteArray.mk #[45]))) (.tmp 7) (Value.string (ByteArray.mk #[45])) t7 h) fun t8 =>
 let t2:Value:=t8
 Q (.ret t2) h) (fun v h=>Q (.pan v) h)))
 (let t9:Value:=t0
 bq (binV Tryz.prog .lss 3 (.tmp 9) (.const (Value.int .i64 10)) t9 (Value.int .i64 10) h) fun t10 =>
 condP (some t10)
 (let t11:Value:=t0
 bq (binV Tryz.prog .add 3 (.const (Value.int .i64 48)) (.tmp 11) (Value.int .i64 48) t11 h) fun t12 =>
 bq (convV Tryz.prog 3 5 t12 h) fun r=>(fun t13 h =>
 bq (bs 5 #[(Value.int .u8 0)] 1 h [(0,1,t13)]) fun r=>(fun t14 h =>
 bq (convV Tryz.prog 80 9 t14 h) fun r=>(fun t15 h =>
 let t2:Value:=t15
 Q (.ret t2) h) r.1 r.2) r.1 r.2) r.1 r.2)
 ((let t16:Value:=t0
 bq (binV Tryz.prog .quo 3 (.tmp 16) (.const (Value.int .i64 10)) t16 (Value.int .i64 10) h) fun t17=>(exP Tryz.prog 14 (([]:List Value)++[t17]++([]:List Value)).toArray h fun t18 g=>g=h∧((let t19:Value:=t0
 bq (binV Tryz.prog .rem 3 (.tmp 19) (.const (Value.int .i64 10)) t19 (Value.int .i64 10) h) fun t20=>(bq (binV Tryz.prog .add 3 (.const (Value.int .i64 48)) (.tmp 20) (Value.int .i64 48) t20 h) fun t21=>(bq (convV Tryz.prog 3 5 t21 h) fun r=>(fun t22 h5_6=>(bq (bs 5 #[(Value.int .u8 0)] 1 h5_6 [(0,1,t22)]) fun r=>(fun t23 h5_7=>(bq (convV Tryz.prog 80 9 t23 h5_7) fun r=>(fun t24 h5_8=>(bq (binV Tryz.prog .add 9 (.tmp 18) (.tmp 24) t18 t24 h5_8) fun t25=>((let t2:Value:=t25
 ((bq (binV Tryz.prog .quo 3 (.tmp 16) (.const (Value.int .i64 10)) t16 (Value.int .i64 10) h5_7) fun v=>(v=t17∧h5_7=h5_7)) ∧
 (exP Tryz.prog 14 (([]:List Value)++[t17]++([]:List Value)).toArray h5_7 fun v g=>g=h5_7∧(v=t18∧h5_7=h5_7)) ∧
 True) ∧
 (fun h =>
 Q (.ret t2) h) h5_8)))) r.1 r.2)) r.1 r.2)) r.1 r.2))))))))
theorem X14_eq (t0:Value) (h:AH) (Q:RQ):X14 t0 h Q=wpC Tryz.prog L14 code14 (argA [t0] Tryz.f14.ntmps) h (retK Tryz.prog res14 Q):=by kernel_rfl
theorem X14_body:Tryz.f14.body=some code14:=by kernel_rfl
theorem X14_ok {t0:Value} {h:AH} {Q:RQ} (H:X14 t0 h Q):HC Tryz.prog 14 [t0].toArray h Q:=HC.body Tryz.func14 X14_body ((X14_eq t0 h Q).mp H)
end Go.Proofs.YtibigfkeaemanaaGreatDoor.X
end
section
namespace Go.Proofs.YtibigfkeaemanaaGreatDoor.L
open Go.Ab Go.Lang Go.Proofs.YtibigfkeaemanaaGreatDoor.X
set_option maxRecDepth 100000
theorem dig_wrap {k:Nat} (hk:k < 10):IntKind.u8.wrap (48 + (k:Int))=(((UInt8.ofNat (48 + k)).toNat:Nat):Int):=by
 rw [wrap8 (by omega) (by omega),u8_of hk];omega
theorem text_nat:∀ (n:Nat),n ≤ 1152921504606846976→∀ h:AH,Ex Tryz.prog 14 [.int .i64 (n:Int)].toArray h (.string ⟨(Lib.decDigits n).toArray⟩) h:=by
 intro n
 induction n using Nat.strongRecOn with
 | _ n ih =>
  intro hn h
  refine Ex.pureF (.string _) (X14_ok ?_)
  unfold X14
  have e0:¬ ((n:Int) < 0):=by omega
  by_cases h10:n < 10
  ·have e1:(n:Int) < 10:=by omega
   rw [Lib.decDigits,dif_pos h10]
   have ed:=dig_wrap h10
   have ew:IntKind.i64.wrap (48 + (n:Int))=48 + (n:Int):=wrap64 (by omega) (by omega)
   have eb:=b2s_row (h:=h.push (.cells (encB [UInt8.ofNat (48 + n)]).toArray 5 (0,0)) none) (k:=h.size) (l:=[UInt8.ofNat (48 + n)]) (get_push_eq rfl)
   have ec:(encB [UInt8.ofNat (48 + n)]).toArray = #[.int .u8 ((UInt8.ofNat (48 + n)).toNat:Nat)]:=rfl
   rw [ec] at eb
   simp (disch:=(first | exact dz | fail)) only [e0,e1,ew,ed,eb,SXB,SX,reduceIte,Int.reduceLT,Int.reduceLE,Int.reduceToNat,Int.reduceBEq,Int.reduceBNe,Nat.reduceAdd,Nat.reduceMul,Nat.reduceSub,Nat.reduceLeDiff]
   exact bq_of eb ⟨rfl,by (repeat (first | exact Kp.refl _ _ | assumption | refine Kp.push ?_ _ _ (by first | omega | (simp only [sz_push,sz_put];omega)) | refine Kp.put ?_ _ _ (by first | omega | (simp only [sz_push,sz_put];omega))))⟩
  ·have e1:¬ ((n:Int) < 10):=by omega
   have eq:IntKind.i64.wrap ((n:Int).tdiv 10)=((n / 10:Nat):Int):=by
    have:(n:Int).tdiv 10=((n / 10:Nat):Int):=rfl
    rw [this];exact wrap64 (by omega) (by omega)
   have em:(n:Int).tmod 10=((n % 10:Nat):Int):=rfl
   have h10':(10:Int) ≠ 0:=by omega
   simp (disch:=(first | exact dz | fail)) only [e0,e1,eq,em,h10',SXB,SX,reduceIte,Int.reduceLT,Int.reduceLE,Int.reduceToNat,Int.reduceBEq,Int.reduceBNe,Nat.reduceAdd,Nat.reduceMul,Nat.reduceSub,Nat.reduceLeDiff]
   have hm:n % 10 < 10:=Nat.mod_lt _ (by omega)
   have hlen:(Lib.decDigits (n / 10)).length ≤ 20:=by
    have:=dec_len 19 (n / 10) (by omega)
    omega
   refine exP_of (ih (n / 10) (by omega) (by omega) h) ⟨rfl,?_⟩
   rw [dig_wrap hm]
   have eb:=b2s_row (h:=h.push (.cells (encB [UInt8.ofNat (48 + n % 10)]).toArray 5 (0,0)) none) (k:=h.size) (l:=[UInt8.ofNat (48 + n % 10)]) (get_push_eq rfl)
   refine bq_of eb ?_
   have hcat:(ByteArray.mk (Lib.decDigits (n / 10)).toArray++ByteArray.mk #[UInt8.ofNat (48 + n % 10)])=⟨(Lib.decDigits n).toArray⟩:=by
    have hd:Lib.decDigits n=Lib.decDigits (n / 10)++[UInt8.ofNat (48 + n % 10)]:=by
     conv=>lhs;rw [Lib.decDigits,dif_neg h10]
    rw [hd]
    refine ByteArray.ext ?_
    simp
   have hsz:(ByteArray.mk (Lib.decDigits (n / 10)).toArray).size + (ByteArray.mk [UInt8.ofNat (48 + n % 10)].toArray).size ≤ 9223372036854775807:=by
    rw [mk_sz,mk_sz];simp;omega
   refine bq_of (bin_add_9 hsz) ⟨?_,?_,?_⟩
   ·exact exP_of (ih (n / 10) (by omega) (by omega) _) ⟨rfl,rfl⟩
   ·show Res.ret (.string (ByteArray.mk (Lib.decDigits (n / 10)).toArray++ByteArray.mk #[UInt8.ofNat (48 + n % 10)]))=_
    rw [hcat]
   ·(repeat (first | exact Kp.refl _ _ | assumption | refine Kp.push ?_ _ _ (by first | omega | (simp only [sz_push,sz_put];omega)) | refine Kp.put ?_ _ _ (by first | omega | (simp only [sz_push,sz_put];omega))))
theorem text_ok (n:Int) (h1:-1152921504606846976 ≤ n) (h2:n ≤ 1152921504606846976) (h:AH):Ex Tryz.prog 14 [.int .i64 n].toArray h (.string (itoaB n)) h:=by
 by_cases h0:n < 0
 ·refine X14_ok ?_
  unfold X14
  have e:IntKind.i64.wrap (0 - n)=((n.natAbs:Nat):Int):=(wrap64 (by omega) (by omega)).trans (by omega)
  simp (disch:=(first | exact dz | fail)) only [h0,un_neg,e,SXB,SX,reduceIte,Int.reduceLT,Int.reduceLE,Int.reduceToNat,Int.reduceBEq,Int.reduceBNe,Nat.reduceAdd,Nat.reduceMul,Nat.reduceSub,Nat.reduceLeDiff]
  refine HC.exact (text_nat n.natAbs (by omega) h) ?_
  have hlen:(Lib.decDigits n.natAbs).length ≤ 20:=by
   have:=dec_len 19 n.natAbs (by omega)
   omega
  have hsz:(ByteArray.mk #[45]).size + (ByteArray.mk (Lib.decDigits n.natAbs).toArray).size ≤ 9223372036854775807:=by
   have:(ByteArray.mk #[45]).size=1:=rfl
   have e1:=mk_sz (l:=Lib.decDigits n.natAbs)
   omega
  refine bq_of (bin_add_9 hsz) ⟨?_,rfl⟩
  have hcat:(ByteArray.mk #[45]++ByteArray.mk (Lib.decDigits n.natAbs).toArray)=itoaB n:=by
   unfold itoaB Lib.itoa
   rw [if_pos h0]
   refine ByteArray.ext ?_
   simp
  rw [hcat]
 ·have:=text_nat n.toNat (by omega) h
  have e:((n.toNat:Nat):Int)=n:=by omega
  rw [e] at this
  have e2:(ByteArray.mk (Lib.decDigits n.toNat).toArray)=itoaB n:=by
   unfold itoaB Lib.itoa
   rw [if_neg h0]
  rw [e2] at this
  exact this
end Go.Proofs.YtibigfkeaemanaaGreatDoor.L
end
section
namespace Go.Proofs.YtibigfkeaemanaaGreatDoor.L
open Go.Ab Go.Lang Go.Proofs.YtibigfkeaemanaaGreatDoor.X
set_option maxRecDepth 100000
structure SC (h h1:AH) (c:Array Value) (toks:List Tok) (tv:Value):Prop where
 err:h1.get h.size=some (.cells #[.int .i64 0,.int .i64 0] 25 (0,0),none)
 tok:h1.get (h.size + 1)=some (.cells c 55 (0,0),none)
 csz:c.size=3
 out:Hld 55 3 h1 (h.size + 2) tv (toks.map encT)
 lt:∀ k,blkOf tv=some k→k < h1.size
 size:h.size + 2 ≤ h1.size
 K:Kp h.size h h1
theorem SC.keep {h h1 h2:AH} {c:Array Value} {toks:List Tok} {tv:Value} (x:SC h h1 c toks tv) (K:Kp h1.size h1 h2):SC h h2 c toks tv:=by
 have hs:=x.size
 exact ⟨(K.get _ (by omega)).trans x.err,(K.get _ (by omega)).trans x.tok,x.csz,x.out.mono fun k hk=>K.get k (x.lt k hk),fun k hk=>Nat.lt_of_lt_of_le (x.lt k hk) K.size,Nat.le_trans hs K.size,⟨Nat.le_trans x.K.size K.size,fun k hk=>(K.get k (by omega)).trans (x.K.get k hk)⟩⟩
theorem SC.put {h h1:AH} {c c':Array Value} {toks:List Tok} {tv:Value} (x:SC h h1 c toks tv) (hc:c'.size=3):SC h (h1.put (h.size + 1) (some (.cells c' 55 (0,0),none))) c' toks tv:=by
 have hs:=x.size
 refine ⟨by rw [get_put_ne (by omega)];exact x.err,get_put_eq rfl,hc,x.out.mono fun k hk=>get_put_ne (by have:=x.out.key k hk;omega),fun k hk=>by rw [sz_put];exact x.lt k hk,by rw [sz_put];exact hs,?_⟩
 have K:=x.K
 (repeat (first | exact Kp.refl _ _ | assumption | refine Kp.push ?_ _ _ (by first | omega | (simp only [sz_push,sz_put];omega)) | refine Kp.put ?_ _ _ (by first | omega | (simp only [sz_push,sz_put];omega))))
def SPf (Q:RQ) (h:AH) (toks:List Tok) (rs:Except Nat (List Tok)):Prop:=match rs with
 | .ok l=>∀ h' v,Kp h.size h h'→Hld 55 3 h' (h.size + 2) v ((toks++l).map encT)→(∀ k,blkOf v=some k→k < h'.size)→Q (.ret (.tuple #[v,.agg #[.int .i64 0,.int .i64 0]])) h'
 | .error j=>∀ h',Kp h.size h h'→Q (.ret (.tuple #[.slice none 0 0,.agg #[.int .i64 160,.int .i64 (j:Nat)]])) h'
theorem scan_bad {h h1:AH} {c:Array Value} {toks:List Tok} {s:ByteArray} {tv:Value} {i:Nat} {Q:RQ} (x:SC h h1 c toks tv) (hq:SPf Q h toks (.error i)) :
  G15_31 (.string s) (.pointer (some ⟨h.size,0,none⟩)) tv (.int .i64 i) (.pointer (some ⟨h.size + 1,0,none⟩)) h1 Q:=by
 refine G15_31_ok (XS15_31_ok ?_)
 unfold XS15_31
 have e:=x.err
 have e7:bdF #[.int .i64 0,.int .i64 0] [(0,1,.int .i64 160),(1,1,.int .i64 (i:Nat))]=some #[.int .i64 160,.int .i64 (i:Nat)]:=by rfl
 generalize hs2:stN 2=s2
 generalize hl2:ldN 2=l2
 simp (disch:=(first | exact dz | fail)) only [e,e7,SXB,SX,reduceIte,Int.reduceLT,Int.reduceLE,Int.reduceToNat,Int.reduceBEq,Int.reduceBNe,Nat.reduceAdd,Nat.reduceMul,Nat.reduceSub,Nat.reduceLeDiff]
 subst hs2 hl2
 refine bq_of (stN_full x.err rfl rfl (fun z hz=>by simp [Value.cells] at hz;rcases hz with rfl | rfl <;> rfl)) ?_
 rw [ldN_full (n:=2) (get_put_eq rfl) rfl]
 simp (disch:=(first | exact dz | fail)) only [SXB,SX,reduceIte,Int.reduceLT,Int.reduceLE,Int.reduceToNat,Int.reduceBEq,Int.reduceBNe,Nat.reduceAdd,Nat.reduceMul,Nat.reduceSub,Nat.reduceLeDiff]
 refine hq _ ?_
 have K:=x.K
 have hs:=x.size
 (repeat (first | exact Kp.refl _ _ | assumption | refine Kp.push ?_ _ _ (by first | omega | (simp only [sz_push,sz_put];omega)) | refine Kp.put ?_ _ _ (by first | omega | (simp only [sz_push,sz_put];omega))))
theorem tok_done {h h1:AH} {toks:List Tok} {s:ByteArray} {tv:Value} {t:Tok} {k:Nat} {Q:RQ} (x:SC h h1 #[.int .i64 t.cls,.int .i64 t.at_,.string t.text] toks tv) (ht:toks.length ≤ 5000)
  (next:∀ h2 c2 tv2,SC h h2 c2 (toks++[t]) tv2→H15_5 (.string s) (.pointer (some ⟨h.size,0,none⟩)) tv2 (.int .i64 k) (.pointer (some ⟨h.size + 1,0,none⟩)) h2 Q) :
  K15_29 (.string s) (.pointer (some ⟨h.size,0,none⟩)) tv (.int .i64 k) (.pointer (some ⟨h.size + 1,0,none⟩)) h1 Q:=by
 refine X15_29_ok ?_
 unfold X15_29
 have hs:=x.size
 rw [ldN_full (n:=3) x.tok rfl]
 rw [bq_some,bs_one (e:=55) (n:=3) rfl rfl,bq_some]
 have hl:(toks.map encT).length=toks.length:=by simp
 obtain ⟨s',h2,q1,q2,q3,q4,q5⟩:=x.out.append1 (v:=encT t) (c:=#[.int .i64 t.cls,.int .i64 t.at_,.string t.text]) (bytes:=32) (zero:=.agg #[.int .i64 0,.int .i64 0,.string ⟨#[]⟩]) rfl x.lt hs (fun v hv=>by
  obtain ⟨d,_,rfl⟩:=List.mem_map.1 hv;rfl) rfl (fun z hz=>by simp at hz;rcases hz with rfl | rfl | rfl <;> rfl) (by omega) (by omega) (by omega) rfl (by omega)
 refine bq_of q1 ?_
 refine G15_5_ok (XS15_5_ok ?_)
 unfold XS15_5
 have g:∀ k,k < h.size + 2→h2.get k=h1.get k:=fun k hk=>q4 k (by omega) fun e=>by have:=x.out.key k e;omega
 refine next h2 _ s' ⟨(g _ (by omega)).trans x.err,(g _ (by omega)).trans x.tok,rfl,by rw [List.map_append];exact q2,fun k hk=>?_,Nat.le_trans hs q3,⟨Nat.le_trans x.K.size q3,fun k hk=>(g k (by omega)).trans (x.K.get k hk)⟩⟩
 rcases q5 with e | ⟨k',e,h1,h3⟩
 ·rw [e] at hk;exact Nat.lt_of_lt_of_le (x.lt k hk) q3
 ·rw [e] at hk;cases hk;exact h3
end Go.Proofs.YtibigfkeaemanaaGreatDoor.L
end
section
namespace Go.Proofs.YtibigfkeaemanaaGreatDoor.L
open Go.Ab Go.Lang Go.Proofs.YtibigfkeaemanaaGreatDoor.X
set_option maxRecDepth 100000
theorem flat_bound {P:Program} {n y:Nat} {c:BoundsCode} (h:n ≤ y):flat P (Instr.sliceBound (.int .i64 (n:Int)) y c)=some n:=by
 unfold Instr.sliceBound
 rw [flat_bind]
 show (flat P (pure (IntKind.i64,(n:Int)):Sem (IntKind × Int))).bind _=_
 rw [flat_pure,Option.bind_some]
 show flat P (if 0 ≤ (n:Int)∧(n:Int) ≤ y then _ else _)=_
 rw [if_pos ⟨by omega,by omega⟩]
 rfl
theorem sub_str {P:Program} {t:TypeId} {h:AH} {s:ByteArray} {i k:Nat} (hu:P.underlying t=some .string) (h1:i ≤ k) (h2:k ≤ s.size):sliceV P h t (.string s) (some (.int .i64 i)) (some (.int .i64 k))=some (.string (s.extract i k)):=by
 have e:flat P (Instr.sliceAt t (.string s) (some (.int .i64 i)) (some (.int .i64 k)) none)=some (.string (s.extract i k)):=by
  unfold Instr.sliceAt
  rw [flat_bind,flat_und hu,Option.bind_some]
  show flat P (Instr.slice t (.string s) (some (.int .i64 i)) (some (.int .i64 k)) none)=_
  unfold Instr.slice
  rw [flat_bind,flat_und hu,Option.bind_some]
  show flat P (Instr.sliceBounds false s.size s.size (some (.int .i64 i)) (some (.int .i64 k)) none >>= _)=_
  rw [flat_bind]
  have e2:flat P (Instr.sliceBounds false s.size s.size (some (.int .i64 i)) (some (.int .i64 k)) none)=some (i,k,s.size):=by
   unfold Instr.sliceBounds
   rw [flat_bind,flat_pure,Option.bind_some]
   show flat P (Instr.sliceBound (.int .i64 k) s.size _ >>= _)=_
   rw [flat_bind,flat_bound h2,Option.bind_some]
   show flat P (Instr.sliceBound (.int .i64 i) k _ >>= _)=_
   rw [flat_bind,flat_bound h1,Option.bind_some]
   rfl
  rw [e2]
  rfl
 have e3:flatV P (Instr.sliceAt t (.string s) (some (.int .i64 i)) (some (.int .i64 k)) none)=some (.string (s.extract i k)):=by
  unfold flatV
  rw [e]
  rfl
 exact e3
theorem tok_cut {h h1:AH} {toks:List Tok} {s:ByteArray} {tv:Value} {cls:Nat} {x y:Value} {i k:Nat} {Q:RQ} (X:SC h h1 #[.int .i64 (cls:Nat),.int .i64 (i:Nat),.string ⟨#[]⟩] toks tv) (ht:toks.length ≤ 5000) (hc:cls ≠ 3) (h1k:i ≤ k) (h2k:k ≤ s.size)
  (next:∀ h2 c2 tv2,SC h h2 c2 (toks++[⟨cls,i,s.extract i k⟩]) tv2→H15_5 (.string s) (.pointer (some ⟨h.size,0,none⟩)) tv2 (.int .i64 k) (.pointer (some ⟨h.size + 1,0,none⟩)) h2 Q) :
  K15_27 (.string s) (.pointer (some ⟨h.size,0,none⟩)) tv (.int .i64 i) (.int .i64 k) (.pointer (some ⟨h.size + 1,0,none⟩)) h1 Q:=by
 refine X15_27_ok ?_
 unfold X15_27
 have e:=X.tok
 have e1:((cls:Int) != 3)=true:=by simp;omega
 have e2:=sub_str (P:=Tryz.prog) (t:=9) (h:=h1) (s:=s) (by kernel_rfl) h1k h2k
 simp (disch:=(first | exact dz | fail)) only [e,e1,e2,SXB,SX,reduceIte,Int.reduceLT,Int.reduceLE,Int.reduceToNat,Int.reduceBEq,Int.reduceBNe,Nat.reduceAdd,Nat.reduceMul,Nat.reduceSub,Nat.reduceLeDiff]
 exact tok_done (t:=⟨cls,i,s.extract i k⟩) (X.put rfl) ht next
end Go.Proofs.YtibigfkeaemanaaGreatDoor.L
end
