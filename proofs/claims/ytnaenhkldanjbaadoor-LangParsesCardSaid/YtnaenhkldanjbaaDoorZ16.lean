import Derived.KernelRfl
import Derived.Test.YtnaenhkldanjbaaDoorProg
import Derived.Test.YtnaenhkldanjbaaDoorZ14
set_option linter.unusedVariables false
set_option linter.unusedSimpArgs false
section
namespace Go.Proofs.YtnaenhkldanjbaaDoor.X
open Go.Ab
set_option maxRecDepth 100000
noncomputable def code6:Code:=match Tryd.f6.body with | some c=>c | none=>.skip
noncomputable def res6:List ResultVar:=Tryd.f6.results.toList
def L6:Nat→Option (List Nat):=fun r=>if r=15 then some [2,7,8,9] else if r=23 then some [2,7,9] else if r=25 then some [2,7,9] else none
noncomputable def J6_15 (t2 t7 t8 t9:Value) (h:AH) (Q:RQ):Prop:=wpC Tryd.prog L6 (cAt code6 [.r,.r,.r,.r,.r,.r,.r,.r,.r,.r]) (mkA 102 [(2,t2),(7,t7),(8,t8),(9,t9)]) h (ctxAt Tryd.prog L6 code6 [.r,.r,.r,.r,.r,.r,.r,.r,.r,.r] (retK Tryd.prog res6 Q))
noncomputable def K6_15 (t2 t7 t8 t9:Value) (h:AH) (Q:RQ):Prop:=(ctxAt Tryd.prog L6 code6 [.r,.r,.r,.r,.r,.r,.r,.r,.r,.l] (retK Tryd.prog res6 Q)) .normal (mkA 102 [(2,t2),(7,t7),(8,t8),(9,t9)]) h
theorem K6_15_eq (t2 t7 t8 t9:Value) (h:AH) (Q:RQ):J6_15 t2 t7 t8 t9 h Q=K6_15 t2 t7 t8 t9 h Q:=join_eq (p:=[.r,.r,.r,.r,.r,.r,.r,.r,.r]) (code:=code6) (by kernel_rfl) (by kernel_rfl)
noncomputable def J6_23 (t2 t7 t9:Value) (h:AH) (Q:RQ):Prop:=wpC Tryd.prog L6 (cAt code6 [.r,.r,.r,.r,.r,.r,.r,.r,.r,.r,.r,.r,.r]) (mkA 102 [(2,t2),(7,t7),(9,t9)]) h (ctxAt Tryd.prog L6 code6 [.r,.r,.r,.r,.r,.r,.r,.r,.r,.r,.r,.r,.r] (retK Tryd.prog res6 Q))
noncomputable def K6_23 (t2 t7 t9:Value) (h:AH) (Q:RQ):Prop:=(ctxAt Tryd.prog L6 code6 [.r,.r,.r,.r,.r,.r,.r,.r,.r,.r,.r,.r,.l] (retK Tryd.prog res6 Q)) .normal (mkA 102 [(2,t2),(7,t7),(9,t9)]) h
theorem K6_23_eq (t2 t7 t9:Value) (h:AH) (Q:RQ):J6_23 t2 t7 t9 h Q=K6_23 t2 t7 t9 h Q:=join_eq (p:=[.r,.r,.r,.r,.r,.r,.r,.r,.r,.r,.r,.r]) (code:=code6) (by kernel_rfl) (by kernel_rfl)
noncomputable def J6_25 (t2 t7 t9:Value) (h:AH) (Q:RQ):Prop:=wpC Tryd.prog L6 (cAt code6 [.r,.r,.r,.r,.r,.r,.r,.r,.r,.r,.r,.r,.r,.r]) (mkA 102 [(2,t2),(7,t7),(9,t9)]) h (ctxAt Tryd.prog L6 code6 [.r,.r,.r,.r,.r,.r,.r,.r,.r,.r,.r,.r,.r,.r] (retK Tryd.prog res6 Q))
noncomputable def K6_25 (t2 t7 t9:Value) (h:AH) (Q:RQ):Prop:=(ctxAt Tryd.prog L6 code6 [.r,.r,.r,.r,.r,.r,.r,.r,.r,.r,.r,.r,.r,.l] (retK Tryd.prog res6 Q)) .normal (mkA 102 [(2,t2),(7,t7),(9,t9)]) h
theorem K6_25_eq (t2 t7 t9:Value) (h:AH) (Q:RQ):J6_25 t2 t7 t9 h Q=K6_25 t2 t7 t9 h Q:=join_eq (p:=[.r,.r,.r,.r,.r,.r,.r,.r,.r,.r,.r,.r,.r]) (code:=code6) (by kernel_rfl) (by kernel_rfl)
noncomputable def X6_25 (t2 t7 t9:Value) (h:AH) (Q:RQ):Prop :=
 let t87:Value:=t7
 bq (nilV Tryd.prog t87) fun t88 =>
 bq (fa 6 1 t88) fun t89 =>
 bq (ld1 h t89) fun t90 =>
 bq (binV Tryd.prog .neq 3 (.tmp 90) (.const (Value.int .i64 0)) t90 (Value.int .i64 0) h) fun t91 =>
 condP (some t91)
 (bq (bd #[(Value.slice none 0 0),(Value.slice none 0 0),(Value.slice none 0 0),(Value.bool false),(Value.bool false),(Value.string (ByteArray.mk #[])),(Value.int .i64 0),(Value.int .i64 0),(Value.string (ByteArray.mk #[])),(Value.slice none 0 0)] []) fun t92 =>
 let t93:Value:=t7
 bq (nilV Tryd.prog t93) fun t94 =>
 bq (fa 6 1 t94) fun t95 =>
 bq (ld1 h t95) fun t96 =>
 let t97:Value:=t7
 bq (nilV Tryd.prog t97) fun t98 =>
 bq (fa 7 1 t98) fun t99 =>
 bq (ld1 h t99) fun t100 =>
 bq (stN 10 h t2 t92) fun h=>(fun q26_9 h =>
 ((bq (ld1 h t99) fun u=>(u=t100))∧((bq (ld1 h t95) fun u=>(u=t96))∧(True))) ∧
 let t3:Value:=t96
 let t4:Value:=t100
 bq (seqO [ldN 10 h t2,some t3,some t4]) fun vs=>Q (.ret (oneOf vs)) h) undef h)
 (bq (ldN 10 h t9) fun t101 =>
 bq (stN 10 h t2 t101) fun h=>(fun _ h =>
 let t3:Value:=(Value.int .i64 0)
 let t4:Value:=(Value.int .i64 0)
 bq (seqO [ldN 10 h t2,some t3,some t4]) fun vs=>Q (.ret (oneOf vs)) h) undef h)
theorem X6_25_eq (t2 t7 t9:Value) (h:AH) (Q:RQ):X6_25 t2 t7 t9 h Q=wpC Tryd.prog L6 (cAt code6 [.r,.r,.r,.r,.r,.r,.r,.r,.r,.r,.r,.r,.r,.r]) (mkA 102 [(2,t2),(7,t7),(9,t9)]) h (ctxAt Tryd.prog L6 code6 [.r,.r,.r,.r,.r,.r,.r,.r,.r,.r,.r,.r,.r,.r] (retK Tryd.prog res6 Q)):=by kernel_rfl
theorem X6_25_ok {t2 t7 t9:Value} {h:AH} {Q:RQ} (H:X6_25 t2 t7 t9 h Q):K6_25 t2 t7 t9 h Q:=(K6_25_eq t2 t7 t9 h Q).mp (((X6_25_eq t2 t7 t9 h Q).mp H))
noncomputable def X6_23 (t2 t7 t9:Value) (h:AH) (Q:RQ):Prop :=
 let t71:Value:=t7
 bq (nilV Tryd.prog t71) fun t72 =>
 bq (fa 6 1 t72) fun t73 =>
 bq (ld1 h t73) fun t74 =>
 bq (binV Tryd.prog .eql 3 (.tmp 74) (.const (Value.int .i64 0)) t74 (Value.int .i64 0) h) fun t75 =>
 let t76:Value:=t75
 guardQ t76 true h (fun k=>k t7 h) fun t77 h =>
 guardQ t76 true h (fun k=>HC Tryd.prog 18 (([]:List Value)++[t77]++([]:List Value)).toArray h (resK k (fun v h=>Q (.pan v) h))) fun t78 h =>
 guardQ t76 true h (fun k=>bq (fd1 0 t78) fun v=>k v h) fun t79 h =>
 guardQ t76 true h (fun k=>bq (binV Tryd.prog .neq 3 (.tmp 79) (.const (Value.int .i64 0)) t79 (Value.int .i64 0) h) fun v=>k v h) fun t80 h =>
 bq (pickV t76 t80 (Value.bool false)) fun t81 =>
 condP (some t81)
 (let t82:Value:=t7
 let t83:Value:=t7
 HC Tryd.prog 18 (([]:List Value)++[t83]++([]:List Value)).toArray h (resK (fun t84 h =>
 bq (fd1 1 t84) fun t85 =>
 HC Tryd.prog 19 (([]:List Value)++[t82,(Value.int .i64 161),t85]++([]:List Value)).toArray h (resK (fun t86 h =>
 K6_25 t2 t7 t9 h Q) (fun v h=>Q (.pan v) h))) (fun v h=>Q (.pan v) h)))
 (K6_25 t2 t7 t9 h Q)
theorem X6_23_eq (t2 t7 t9:Value) (h:AH) (Q:RQ):X6_23 t2 t7 t9 h Q=wpC Tryd.prog L6 (cAt code6 [.r,.r,.r,.r,.r,.r,.r,.r,.r,.r,.r,.r,.r]) (mkA 102 [(2,t2),(7,t7),(9,t9)]) h (ctxAt Tryd.prog L6 code6 [.r,.r,.r,.r,.r,.r,.r,.r,.r,.r,.r,.r,.r] (retK Tryd.prog res6 Q)):=by kernel_rfl
theorem X6_23_ok {t2 t7 t9:Value} {h:AH} {Q:RQ} (H:X6_23 t2 t7 t9 h Q):K6_23 t2 t7 t9 h Q:=(K6_23_eq t2 t7 t9 h Q).mp (((X6_23_eq t2 t7 t9 h Q).mp H))
noncomputable def X6_15 (t2 t7 t8 t9:Value) (h:AH) (Q:RQ):Prop :=
 let t46:Value:=t7
 HC Tryd.prog 13 (([]:List Value)++[t46,(Value.int .i64 1),(Value.string (ByteArray.mk #[114,101,100,117,99,101]))]++([]:List Value)).toArray h (resK (fun t47 h =>
 let t48:Value:=t7
 let t49:Value:=t8
 HC Tryd.prog 14 (([]:List Value)++[t48,(Value.int .i64 0),t49]++([]:List Value)).toArray h (resK (fun t50 h =>
 bq (fa 2 1 t9) fun t51 =>
 bq (stN 1 h t51 t50) fun h=>(fun _ h =>
 let t52:Value:=t7
 HC Tryd.prog 15 (([]:List Value)++[t52,(Value.int .i64 1),(Value.string (ByteArray.mk #[112,97,114,116]))]++([]:List Value)).toArray h (resK (fun t53 h =>
 condP (some t53)
 (let t54:Value:=t7
 HC Tryd.prog 16 (([]:List Value)++[t54]++([]:List Value)).toArray h (resK (fun t55 h =>
 bq (fa 4 1 t9) fun t56 =>
 bq (stN 1 h t56 (Value.bool true)) fun h=>(fun _ h =>
 let t57:Value:=t7
 bq (bd #[(Value.string (ByteArray.mk #[])),(Value.int .u8 0)] [(0,1,(Value.string (ByteArray.mk #[107,101,121]))),(1,1,(Value.int .u8 116))]) fun t58 =>
 bq (bd #[(Value.string (ByteArray.mk #[])),(Value.int .u8 0)] [(0,1,(Value.string (ByteArray.mk #[112,97,114,116,115]))),(1,1,(Value.int .u8 110))]) fun t59 =>
 bq (bs 65 #[(Value.string (ByteArray.mk #[])),(Value.int .u8 0),(Value.string (ByteArray.mk #[])),(Value.int .u8 0)] 2 h [(0,2,t58),(2,2,t59)]) fun r=>(fun t60 h =>
 bq (nilV Tryd.prog t57) fun t61 =>
 bq (fa 2 1 t61) fun t62 =>
 bq (stN 1 h t62 t60) fun h=>(fun _ h =>
 let t64:Value:=t7
 HC Tryd.prog 17 (([]:List Value)++[t64,(Value.int .u8 110)]++([]:List Value)).toArray h (resK (fun t65 h =>
 let t63:Value:=t65
 bq (opExtract t63 0) fun t66 =>
 bq (opExtract t63 1) fun t67 =>
 bq (fa 5 5 t9) fun t68 =>
 bq (stN 5 h t68 t66) fun h=>(fun _ h =>
 let t69:Value:=t7
 HC Tryd.prog 13 (([]:List Value)++[t69,(Value.int .i64 4),(Value.string (ByteArray.mk #[59]))]++([]:List Value)).toArray h (resK (fun t70 h =>
 K6_23 t2 t7 t9 h Q) (fun v h=>Q (.pan v) h))) undef h) (fun v h=>Q (.pan v) h))) undef h) r.1 r.2) undef h) (fun v h=>Q (.pan v) h)))
 (K6_23 t2 t7 t9 h Q)) (fun v h=>Q (.pan v) h))) undef h) (fun v h=>Q (.pan v) h))) (fun v h=>Q (.pan v) h))
theorem X6_15_eq (t2 t7 t8 t9:Value) (h:AH) (Q:RQ):X6_15 t2 t7 t8 t9 h Q=wpC Tryd.prog L6 (cAt code6 [.r,.r,.r,.r,.r,.r,.r,.r,.r,.r]) (mkA 102 [(2,t2),(7,t7),(8,t8),(9,t9)]) h (ctxAt Tryd.prog L6 code6 [.r,.r,.r,.r,.r,.r,.r,.r,.r,.r] (retK Tryd.prog res6 Q)):=by kernel_rfl
theorem X6_15_ok {t2 t7 t8 t9:Value} {h:AH} {Q:RQ} (H:X6_15 t2 t7 t8 t9 h Q):K6_15 t2 t7 t8 t9 h Q:=(K6_15_eq t2 t7 t8 t9 h Q).mp (((X6_15_eq t2 t7 t8 t9 h Q).mp H))
noncomputable def X6 (t0:Value) (h:AH) (Q:RQ):Prop :=
 (fun t2 h =>
 let t3:Value:=(Value.int .i64 0)
 let t4:Value:=(Value.int .i64 0)
 let t10:Value:=t0
 bq (lenS t10) fun t11 =>
 bq (binV Tryd.prog .gtr 3 (.tmp 11) (.const (Value.int .i64 4096)) t11 (Value.int .i64 4096) h) fun t12 =>
 condP (some t12)
 (bq (bd #[(Value.slice none 0 0),(Value.slice none 0 0),(Value.slice none 0 0),(Value.bool false),(Value.bool false),(Value.string (ByteArray.mk #[])),(Value.int .i64 0),(Value.int .i64 0),(Value.string (ByteArray.mk #[])),(Value.slice none 0 0)] []) fun t13 =>
 bq (stN 10 h t2 t13) fun h=>(fun _ h =>
 let t3:Value:=(Value.int .i64 1)
 let t4:Value:=(Value.int .i64 0)
 bq (seqO [ldN 10 h t2,some t3,some t4]) fun vs=>Q (.ret (oneOf vs)) h) undef h)
 (let t15:Value:=t0
 HC Tryd.prog 12 (([]:List Value)++[t15]++([]:List Value)).toArray h (resK (fun t16 h =>
 let t14:Value:=t16
 bq (opExtract t14 0) fun t17 =>
 bq (opExtract t14 1) fun t18 =>
 let t5:Value:=t17
 let t6:Value:=t18
 let t19:Value:=t6
 bq (binV Tryd.prog .geq 3 (.tmp 19) (.const (Value.int .i64 0)) t19 (Value.int .i64 0) h) fun t20 =>
 condP (some t20)
 (bq (bd #[(Value.slice none 0 0),(Value.slice none 0 0),(Value.slice none 0 0),(Value.bool false),(Value.bool false),(Value.string (ByteArray.mk #[])),(Value.int .i64 0),(Value.int .i64 0),(Value.string (ByteArray.mk #[])),(Value.slice none 0 0)] []) fun t21 =>
 let t22:Value:=t6
 bq (stN 10 h t2 t21) fun h=>(fun _ h =>
 let t3:Value:=(Value.int .i64 160)
 let t4:Value:=t22
 bq (seqO [ldN 10 h t2,some t3,some t4]) fun vs=>Q (.ret (oneOf vs)) h) undef h)
 (let t23:Value:=t5
 bq (bd #[(Value.slice none 0 0),(Value.int .i64 0),(Value.slice none 0 0),(Value.int .i64 0),(Value.int .i64 0),(Value.int .i64 0),(Value.int .i64 0),(Value.int .i64 0)] [(0,1,t23)]) fun t24 =>
 (fun t25 h =>
 let t7:Value:=t25
 bq (bd #[(Value.string (ByteArray.mk #[])),(Value.int .u8 0)] [(0,1,(Value.string (ByteArray.mk #[107,101,121]))),(1,1,(Value.int .u8 116))]) fun t26 =>
 bq (bd #[(Value.string (ByteArray.mk #[])),(Value.int .u8 0)] [(0,1,(Value.string (ByteArray.mk #[118,97,108,117,101,115]))),(1,1,(Value.int .u8 108))]) fun t27 =>
 bq (bs 65 #[(Value.string (ByteArray.mk #[])),(Value.int .u8 0),(Value.string (ByteArray.mk #[])),(Value.int .u8 0)] 2 h [(0,2,t26),(2,2,t27)]) fun r=>(fun t28 h =>
 let t8:Value:=t28
 (fun t9 h =>
 let t29:Value:=t7
 HC Tryd.prog 13 (([]:List Value)++[t29,(Value.int .i64 1),(Value.string (ByteArray.mk #[109,97,112]))]++([]:List Value)).toArray h (resK (fun t30 h =>
 let t31:Value:=t7
 bq (bd #[(Value.string (ByteArray.mk #[])),(Value.int .u8 0)] [(0,1,(Value.string (ByteArray.mk #[107,101,121]))),(1,1,(Value.int .u8 116))]) fun t32 =>
 bq (bd #[(Value.string (ByteArray.mk #[])),(Value.int .u8 0)] [(0,1,(Value.string (ByteArray.mk #[118,97,108,117,101]))),(1,1,(Value.int .u8 116))]) fun t33 =>
 bq (bs 65 #[(Value.string (ByteArray.mk #[])),(Value.int .u8 0),(Value.string (ByteArray.mk #[])),(Value.int .u8 0)] 2 h [(0,2,t32),(2,2,t33)]) fun r=>(fun t34 h =>
 HC Tryd.prog 14 (([]:List Value)++[t31,(Value.int .i64 0),t34]++([]:List Value)).toArray h (resK (fun t35 h =>
 bq (fa 0 1 t9) fun t36 =>
 bq (stN 1 h t36 t35) fun h=>(fun _ h =>
 let t37:Value:=t7
 HC Tryd.prog 15 (([]:List Value)++[t37,(Value.int .i64 1),(Value.string (ByteArray.mk #[99,111,109,98,105,110,101]))]++([]:List Value)).toArray h (resK (fun t38 h =>
 condP (some t38)
 (let t39:Value:=t7
 HC Tryd.prog 16 (([]:List Value)++[t39]++([]:List Value)).toArray h (resK (fun t40 h =>
 bq (fa 3 1 t9) fun t41 =>
 bq (stN 1 h t41 (Value.bool true)) fun h=>(fun _ h =>
 let t42:Value:=t7
 let t43:Value:=t8
 HC Tryd.prog 14 (([]:List Value)++[t42,(Value.int .i64 0),t43]++([]:List Value)).toArray h (resK (fun t44 h =>
 bq (fa 1 1 t9) fun t45 =>
 bq (stN 1 h t45 t44) fun h=>(fun _ h =>
 K6_15 t2 t7 t8 t9 h Q) undef h) (fun v h=>Q (.pan v) h))) undef h) (fun v h=>Q (.pan v) h)))
 (K6_15 t2 t7 t8 t9 h Q)) (fun v h=>Q (.pan v) h))) undef h) (fun v h=>Q (.pan v) h))) r.1 r.2) (fun v h=>Q (.pan v) h))) (opNew h 34 #[(Value.slice none 0 0),(Value.slice none 0 0),(Value.slice none 0 0),(Value.bool false),(Value.bool false),(Value.string (ByteArray.mk #[])),(Value.int .i64 0),(Value.int .i64 0),(Value.string (ByteArray.mk #[])),(Value.slice none 0 0)]).1 (opNew h 34 #[(Value.slice none 0 0),(Value.slice none 0 0),(Value.slice none 0 0),(Value.bool false),(Value.bool false),(Value.string (ByteArray.mk #[])),(Value.int .i64 0),(Value.int .i64 0),(Value.string (ByteArray.mk #[])),(Value.slice none 0 0)]).2) r.1 r.2) (opNew h 63 t24.cells).1 (opNew h 63 t24.cells).2)) (fun v h=>Q (.pan v) h)))) (opNew h 34 #[(Value.slice none 0 0),(Value.slice none 0 0),(Value.slice none 0 0),(Value.bool false),(Value.bool false),(Value.string (ByteArray.mk #[])),(Value.int .i64 0),(Value.int .i64 0),(Value.string (ByteArray.mk #[])),(Value.slice none 0 0)]).1 (opNew h 34 #[(Value.slice none 0 0),(Value.slice none 0 0),(Value.slice none 0 0),(Value.bool false),(Value.bool false),(Value.string (ByteArray.mk #[])),(Value.int .i64 0),(Value.int .i64 0),(Value.string (ByteArray.mk #[])),(Value.slice none 0 0)]).2
theorem X6_eq (t0:Value) (h:AH) (Q:RQ):X6 t0 h Q=wpC Tryd.prog L6 code6 (argA [t0] Tryd.f6.ntmps) h (retK Tryd.prog res6 Q):=by kernel_rfl
theorem X6_body:Tryd.f6.body=some code6:=by kernel_rfl
theorem X6_ok {t0:Value} {h:AH} {Q:RQ} (H:X6 t0 h Q):HC Tryd.prog 6 [t0].toArray h Q:=HC.body Tryd.func6 X6_body ((X6_eq t0 h Q).mp H)
noncomputable def code13:Code:=match Tryd.f13.body with | some c=>c | none=>.skip
noncomputable def res13:List ResultVar:=Tryd.f13.results.toList
def L13:Nat→Option (List Nat):=fun r=>none
noncomputable def X13 (t0 t1 t2:Value) (h:AH) (Q:RQ):Prop :=
 let t6:Value:=t0
 let t7:Value:=t1
 let t8:Value:=t2
 HC Tryd.prog 15 (([]:List Value)++[t6,t7,t8]++([]:List Value)).toArray h (resK (fun t9 h =>
 bq (unV Tryd.prog .not t9) fun t10 =>
 condP (some t10)
 (let t11:Value:=t0
 let t12:Value:=t0
 HC Tryd.prog 18 (([]:List Value)++[t12]++([]:List Value)).toArray h (resK (fun t13 h =>
 bq (fd1 1 t13) fun t14 =>
 HC Tryd.prog 19 (([]:List Value)++[t11,(Value.int .i64 161),t14]++([]:List Value)).toArray h (resK (fun t15 h =>
 Q (.ret (.tuple [].toArray)) h) (fun v h=>Q (.pan v) h))) (fun v h=>Q (.pan v) h)))
 (let t16:Value:=t0
 HC Tryd.prog 16 (([]:List Value)++[t16]++([]:List Value)).toArray h (resK (fun t17 h =>
 Q (.ret (.tuple [].toArray)) h) (fun v h=>Q (.pan v) h)))) (fun v h=>Q (.pan v) h))
theorem X13_eq (t0 t1 t2:Value) (h:AH) (Q:RQ):X13 t0 t1 t2 h Q=wpC Tryd.prog L13 code13 (argA [t0,t1,t2] Tryd.f13.ntmps) h (retK Tryd.prog res13 Q):=by kernel_rfl
theorem X13_body:Tryd.f13.body=some code13:=by kernel_rfl
theorem X13_ok {t0 t1 t2:Value} {h:AH} {Q:RQ} (H:X13 t0 t1 t2 h Q):HC Tryd.prog 13 [t0,t1,t2].toArray h Q:=HC.body Tryd.func13 X13_body ((X13_eq t0 t1 t2 h Q).mp H)
noncomputable def code14:Code:=match Tryd.f14.body with | some c=>c | none=>.skip
noncomputable def res14:List ResultVar:=Tryd.f14.results.toList
def L14:Nat→Option (List Nat):=fun r=>if r=3 then some [0,1,2] else if r=11 then some [0,1,7,9] else none
noncomputable def J14_3 (t0 t1 t2:Value) (h:AH) (Q:RQ):Prop:=wpC Tryd.prog L14 (cAt code14 [.r,.r]) (mkA 111 [(0,t0),(1,t1),(2,t2)]) h (ctxAt Tryd.prog L14 code14 [.r,.r] (retK Tryd.prog res14 Q))
noncomputable def K14_3 (t0 t1 t2:Value) (h:AH) (Q:RQ):Prop:=(ctxAt Tryd.prog L14 code14 [.r,.l] (retK Tryd.prog res14 Q)) .normal (mkA 111 [(0,t0),(1,t1),(2,t2)]) h
theorem K14_3_eq (t0 t1 t2:Value) (h:AH) (Q:RQ):J14_3 t0 t1 t2 h Q=K14_3 t0 t1 t2 h Q:=join_eq (p:=[.r]) (code:=code14) (by kernel_rfl) (by kernel_rfl)
noncomputable def H14_11 (t0 t1 t7 t9:Value) (h:AH) (Q:RQ):Prop:=HL Tryd.prog (cAt code14 [.r,.r,.r,.r,.r,.r,.r,.r,.r,.r,.l,.i,.i]) (mkA 111 [(0,t0),(1,t1),(7,t7),(9,t9)]) h (ctxAt Tryd.prog L14 code14 [.r,.r,.r,.r,.r,.r,.r,.r,.r,.r,.l,.i] (retK Tryd.prog res14 Q))
noncomputable def X14_11 (t0 t1 t7 t9:Value) (h:AH) (Q:RQ):Prop :=
 let t69:Value:=t0
 bq (nilV Tryd.prog t69) fun t70 =>
 bq (fa 6 1 t70) fun t71 =>
 bq (ld1 h t71) fun t72 =>
 bq (binV Tryd.prog .eql 3 (.tmp 72) (.const (Value.int .i64 0)) t72 (Value.int .i64 0) h) fun t73 =>
 let t74:Value:=t73
 guardQ t74 true h (fun k=>k t0 h) fun t75 h =>
 guardQ t74 true h (fun k=>HC Tryd.prog 15 (([]:List Value)++[t75,(Value.int .i64 4),(Value.string (ByteArray.mk #[125]))]++([]:List Value)).toArray h (resK k (fun v h=>Q (.pan v) h))) fun t76 h =>
 guardQ t74 true h (fun k=>bq (unV Tryd.prog .not t76) fun v=>k v h) fun t77 h =>
 bq (pickV t74 t77 (Value.bool false)) fun t78 =>
 condP (some t78)
 (let t79:Value:=t9
 let t80:Value:=t0
 HC Tryd.prog 31 (([]:List Value)++[t80]++([]:List Value)).toArray h (resK (fun t81 h =>
 bq (bs 78 #[(Value.string (ByteArray.mk #[])),(Value.string (ByteArray.mk #[])),(Value.string (ByteArray.mk #[])),(Value.int .i64 0),(Value.int .i64 0),(Value.string (ByteArray.mk #[])),(Value.slice none 0 0),(Value.string (ByteArray.mk #[])),(Value.int .i64 0),(Value.int .i64 0),(Value.string (ByteArray.mk #[])),(Value.slice none 0 0),(Value.slice none 0 0),(Value.slice none 0 0)] 1 h [(0,14,t81)]) fun r=>(fun t82 h =>
 bq (apT 78 14 224 (some (Value.agg #[(Value.string (ByteArray.mk #[])),(Value.string (ByteArray.mk #[])),(Value.string (ByteArray.mk #[])),(Value.int .i64 0),(Value.int .i64 0),(Value.string (ByteArray.mk #[])),(Value.slice none 0 0),(Value.string (ByteArray.mk #[])),(Value.int .i64 0),(Value.int .i64 0),(Value.string (ByteArray.mk #[])),(Value.slice none 0 0),(Value.slice none 0 0),(Value.slice none 0 0)])) h t79 t82) fun r=>(fun t83 h =>
 let t9:Value:=t83
 H14_11 t0 t1 t7 t9 h Q) r.1 r.2) r.1 r.2) (fun v h=>Q (.pan v) h)))
 (let t84:Value:=t0
 HC Tryd.prog 16 (([]:List Value)++[t84]++([]:List Value)).toArray h (resK (fun t85 h =>
 let t86:Value:=t0
 bq (nilV Tryd.prog t86) fun t87 =>
 bq (fa 3 1 t87) fun t88 =>
 bq (ld1 h t88) fun t89 =>
 bq (binV Tryd.prog .sub 3 (.tmp 89) (.const (Value.int .i64 1)) t89 (Value.int .i64 1) h) fun t90 =>
 bq (nilV Tryd.prog t86) fun t91 =>
 bq (fa 3 1 t91) fun t92 =>
 bq (stN 1 h t92 t90) fun h=>(fun _ h =>
 let t93:Value:=t0
 bq (nilV Tryd.prog t93) fun t94 =>
 bq (fa 4 1 t94) fun t95 =>
 bq (ld1 h t95) fun t96 =>
 let t97:Value:=t1
 bq (binV Tryd.prog .sub 3 (.tmp 96) (.tmp 97) t96 t97 h) fun t98 =>
 bq (nilV Tryd.prog t93) fun t99 =>
 bq (fa 4 1 t99) fun t100 =>
 bq (stN 1 h t100 t98) fun h=>(fun _ h =>
 let t101:Value:=t0
 let t102:Value:=t0
 bq (nilV Tryd.prog t102) fun t103 =>
 bq (fa 2 1 t103) fun t104 =>
 bq (ld1 h t104) fun t105 =>
 let t106:Value:=t7
 bq (sliceV Tryd.prog h 61 t105 none (some t106)) fun t107 =>
 bq (nilV Tryd.prog t101) fun t108 =>
 bq (fa 2 1 t108) fun t109 =>
 bq (stN 1 h t109 t107) fun h=>(fun _ h =>
 let t110:Value:=t9
 let t6:Value:=t110
 Q (.ret t6) h) undef h) undef h) undef h) (fun v h=>Q (.pan v) h)))
theorem X14_11_eq (t0 t1 t7 t9:Value) (h:AH) (Q:RQ):X14_11 t0 t1 t7 t9 h Q=wpC Tryd.prog L14 (cAt code14 [.r,.r,.r,.r,.r,.r,.r,.r,.r,.r,.l,.i,.i]) (mkA 111 [(0,t0),(1,t1),(7,t7),(9,t9)]) h (ctxAt Tryd.prog L14 code14 [.r,.r,.r,.r,.r,.r,.r,.r,.r,.r,.l,.i,.i] (retK Tryd.prog res14 Q)):=by kernel_rfl
theorem X14_11_ok {t0 t1 t7 t9:Value} {h:AH} {Q:RQ} (H:X14_11 t0 t1 t7 t9 h Q):H14_11 t0 t1 t7 t9 h Q:=HL.step (L:=L14) ((X14_11_eq t0 t1 t7 t9 h Q).mp H)
noncomputable def X14_3 (t0 t1 t2:Value) (h:AH) (Q:RQ):Prop :=
 let t35:Value:=t0
 HC Tryd.prog 13 (([]:List Value)++[t35,(Value.int .i64 4),(Value.string (ByteArray.mk #[123]))]++([]:List Value)).toArray h (resK (fun t36 h =>
 let t37:Value:=t0
 bq (nilV Tryd.prog t37) fun t38 =>
 bq (fa 2 1 t38) fun t39 =>
 bq (ld1 h t39) fun t40 =>
 bq (lenL t40) fun t41 =>
 let t7:Value:=t41
 let t8:Value:=(Value.slice none 0 0)
 let t42:Value:=t8
 let t43:Value:=t0
 bq (nilV Tryd.prog t43) fun t44 =>
 bq (fa 2 1 t44) fun t45 =>
 bq (ld1 h t45) fun t46 =>
 bq (apT 65 2 24 (some (Value.agg #[(Value.string (ByteArray.mk #[])),(Value.int .u8 0)])) h t42 t46) fun r=>(fun t47 h =>
 let t8:Value:=t47
 let t48:Value:=t0
 let t49:Value:=t8
 let t50:Value:=t2
 bq (apT 65 2 24 (some (Value.agg #[(Value.string (ByteArray.mk #[])),(Value.int .u8 0)])) h t49 t50) fun r=>(fun t51 h =>
 bq (nilV Tryd.prog t48) fun t52 =>
 bq (fa 2 1 t52) fun t53 =>
 bq (stN 1 h t53 t51) fun h=>(fun _ h =>
 let t54:Value:=t0
 bq (nilV Tryd.prog t54) fun t55 =>
 bq (fa 3 1 t55) fun t56 =>
 bq (ld1 h t56) fun t57 =>
 bq (binV Tryd.prog .add 3 (.tmp 57) (.const (Value.int .i64 1)) t57 (Value.int .i64 1) h) fun t58 =>
 bq (nilV Tryd.prog t54) fun t59 =>
 bq (fa 3 1 t59) fun t60 =>
 bq (stN 1 h t60 t58) fun h=>(fun _ h =>
 let t61:Value:=t0
 bq (nilV Tryd.prog t61) fun t62 =>
 bq (fa 4 1 t62) fun t63 =>
 bq (ld1 h t63) fun t64 =>
 let t65:Value:=t1
 bq (binV Tryd.prog .add 3 (.tmp 64) (.tmp 65) t64 t65 h) fun t66 =>
 bq (nilV Tryd.prog t61) fun t67 =>
 bq (fa 4 1 t67) fun t68 =>
 bq (stN 1 h t68 t66) fun h=>(fun _ h =>
 let t9:Value:=(Value.slice none 0 0)
 H14_11 t0 t1 t7 t9 h Q) undef h) undef h) undef h) r.1 r.2) r.1 r.2) (fun v h=>Q (.pan v) h))
theorem X14_3_eq (t0 t1 t2:Value) (h:AH) (Q:RQ):X14_3 t0 t1 t2 h Q=wpC Tryd.prog L14 (cAt code14 [.r,.r]) (mkA 111 [(0,t0),(1,t1),(2,t2)]) h (ctxAt Tryd.prog L14 code14 [.r,.r] (retK Tryd.prog res14 Q)):=by kernel_rfl
theorem X14_3_ok {t0 t1 t2:Value} {h:AH} {Q:RQ} (H:X14_3 t0 t1 t2 h Q):K14_3 t0 t1 t2 h Q:=(K14_3_eq t0 t1 t2 h Q).mp (((X14_3_eq t0 t1 t2 h Q).mp H))
noncomputable def X14 (t0 t1 t2:Value) (h:AH) (Q:RQ):Prop :=
 let t6:Value:=(Value.slice none 0 0)
 let t10:Value:=t0
 HC Tryd.prog 15 (([]:List Value)++[t10,(Value.int .i64 4),(Value.string (ByteArray.mk #[123]))]++([]:List Value)).toArray h (resK (fun t11 h =>
 let t12:Value:=t11
 guardQ t12 true h (fun k=>k t0 h) fun t13 h =>
 guardQ t12 true h (fun k=>bq (nilV Tryd.prog t13) fun v=>k v h) fun t14 h =>
 guardQ t12 true h (fun k=>bq (fa 3 1 t14) fun v=>k v h) fun t15 h =>
 guardQ t12 true h (fun k=>bq (ld1 h t15) fun v=>k v h) fun t16 h =>
 guardQ t12 true h (fun k=>bq (binV Tryd.prog .geq 3 (.tmp 16) (.const (Value.int .i64 8)) t16 (Value.int .i64 8) h) fun v=>k v h) fun t17 h =>
 guardQ t12 true h (fun k=>k t17 h) fun t18 h =>
 guardQ t18 false h (fun k=>k t1 h) fun t19 h =>
 guardQ t18 false h (fun k=>bq (binV Tryd.prog .gtr 3 (.tmp 19) (.const (Value.int .i64 0)) t19 (Value.int .i64 0) h) fun v=>k v h) fun t20 h =>
 guardQ t18 false h (fun k=>k t20 h) fun t21 h =>
 guardQ t21 true h (fun k=>k t0 h) fun t22 h =>
 guardQ t21 true h (fun k=>bq (nilV Tryd.prog t22) fun v=>k v h) fun t23 h =>
 guardQ t21 true h (fun k=>bq (fa 4 1 t23) fun v=>k v h) fun t24 h =>
 guardQ t21 true h (fun k=>bq (ld1 h t24) fun v=>k v h) fun t25 h =>
 guardQ t21 true h (fun k=>bq (binV Tryd.prog .geq 3 (.tmp 25) (.const (Value.int .i64 2)) t25 (Value.int .i64 2) h) fun v=>k v h) fun t26 h =>
 guardQ t18 false h (fun k=>bq (pickV t21 t26 (Value.bool false)) fun v=>k v h) fun t27 h =>
 guardQ t12 true h (fun k=>bq (pickV t18 (Value.bool true) t27) fun v=>k v h) fun t28 h =>
 bq (pickV t12 t28 (Value.bool false)) fun t29 =>
 condP (some t29)
 (let t30:Value:=t0
 let t31:Value:=t0
 HC Tryd.prog 18 (([]:List Value)++[t31]++([]:List Value)).toArray h (resK (fun t32 h =>
 bq (fd1 1 t32) fun t33 =>
 HC Tryd.prog 19 (([]:List Value)++[t30,(Value.int .i64 164),t33]++([]:List Value)).toArray h (resK (fun t34 h =>
 K14_3 t0 t1 t2 h Q) (fun v h=>Q (.pan v) h))) (fun v h=>Q (.pan v) h)))
 (K14_3 t0 t1 t2 h Q)) (fun v h=>Q (.pan v) h))
theorem X14_eq (t0 t1 t2:Value) (h:AH) (Q:RQ):X14 t0 t1 t2 h Q=wpC Tryd.prog L14 code14 (argA [t0,t1,t2] Tryd.f14.ntmps) h (retK Tryd.prog res14 Q):=by kernel_rfl
theorem X14_body:Tryd.f14.body=some code14:=by kernel_rfl
theorem X14_ok {t0 t1 t2:Value} {h:AH} {Q:RQ} (H:X14 t0 t1 t2 h Q):HC Tryd.prog 14 [t0,t1,t2].toArray h Q:=HC.body Tryd.func14 X14_body ((X14_eq t0 t1 t2 h Q).mp H)
noncomputable def code15:Code:=match Tryd.f15.body with | some c=>c | none=>.skip
noncomputable def res15:List ResultVar:=Tryd.f15.results.toList
def L15:Nat→Option (List Nat):=fun r=>none
noncomputable def X15 (t0 t1 t2:Value) (h:AH) (Q:RQ):Prop :=
 let t6:Value:=(Value.bool false)
 let t7:Value:=t0
 bq (nilV Tryd.prog t7) fun t8 =>
 bq (fa 6 1 t8) fun t9 =>
 bq (ld1 h t9) fun t10 =>
 bq (binV Tryd.prog .eql 3 (.tmp 10) (.const (Value.int .i64 0)) t10 (Value.int .i64 0) h) fun t11 =>
 let t12:Value:=t11
 guardQ t12 true h (fun k=>k t0 h) fun t13 h =>
 guardQ t12 true h (fun k=>HC Tryd.prog 18 (([]:List Value)++[t13]++([]:List Value)).toArray h (resK k (fun v h=>Q (.pan v) h))) fun t14 h =>
 guardQ t12 true h (fun k=>bq (fd1 0 t14) fun v=>k v h) fun t15 h =>
 guardQ t12 true h (fun k=>k t1 h) fun t16 h =>
 guardQ t12 true h (fun k=>bq (binV Tryd.prog .eql 3 (.tmp 15) (.tmp 16) t15 t16 h) fun v=>k v h) fun t17 h =>
 bq (pickV t12 t17 (Value.bool false)) fun t18 =>
 let t19:Value:=t18
 guardQ t19 true h (fun k=>k t0 h) fun t20 h =>
 guardQ t19 true h (fun k=>HC Tryd.prog 18 (([]:List Value)++[t20]++([]:List Value)).toArray h (resK k (fun v h=>Q (.pan v) h))) fun t21 h =>
 guardQ t19 true h (fun k=>bq (fd1 2 t21) fun v=>k v h) fun t22 h =>
 guardQ t19 true h (fun k=>k t2 h) fun t23 h =>
 guardQ t19 true h (fun k=>bq (binV Tryd.prog .eql 9 (.tmp 22) (.tmp 23) t22 t23 h) fun v=>k v h) fun t24 h =>
 bq (pickV t19 t24 (Value.bool false)) fun t25 =>
 let t6:Value:=t25
 Q (.ret t6) h
theorem X15_eq (t0 t1 t2:Value) (h:AH) (Q:RQ):X15 t0 t1 t2 h Q=wpC Tryd.prog L15 code15 (argA [t0,t1,t2] Tryd.f15.ntmps) h (retK Tryd.prog res15 Q):=by kernel_rfl
theorem X15_body:Tryd.f15.body=some code15:=by kernel_rfl
theorem X15_ok {t0 t1 t2:Value} {h:AH} {Q:RQ} (H:X15 t0 t1 t2 h Q):HC Tryd.prog 15 [t0,t1,t2].toArray h Q:=HC.body Tryd.func15 X15_body ((X15_eq t0 t1 t2 h Q).mp H)
noncomputable def code16:Code:=match Tryd.f16.body with | some c=>c | none=>.skip
noncomputable def res16:List ResultVar:=Tryd.f16.results.toList
def L16:Nat→Option (List Nat):=fun r=>none
noncomputable def X16 (t0:Value) (h:AH) (Q:RQ):Prop :=
 let t2:Value:=t0
 bq (nilV Tryd.prog t2) fun t3 =>
 bq (fa 6 1 t3) fun t4 =>
 bq (ld1 h t4) fun t5 =>
 bq (binV Tryd.prog .eql 3 (.tmp 5) (.const (Value.int .i64 0)) t5 (Value.int .i64 0) h) fun t6 =>
 let t7:Value:=t6
 guardQ t7 true h (fun k=>k t0 h) fun t8 h =>
 guardQ t7 true h (fun k=>bq (nilV Tryd.prog t8) fun v=>k v h) fun t9 h =>
 guardQ t7 true h (fun k=>bq (fa 1 1 t9) fun v=>k v h) fun t10 h =>
 guardQ t7 true h (fun k=>bq (ld1 h t10) fun v=>k v h) fun t11 h =>
 guardQ t7 true h (fun k=>k t0 h) fun t12 h =>
 guardQ t7 true h (fun k=>bq (nilV Tryd.prog t12) fun v=>k v h) fun t13 h =>
 guardQ t7 true h (fun k=>bq (fa 0 1 t13) fun v=>k v h) fun t14 h =>
 guardQ t7 true h (fun k=>bq (ld1 h t14) fun v=>k v h) fun t15 h =>
 guardQ t7 true h (fun k=>bq (lenL t15) fun v=>k v h) fun t16 h =>
 guardQ t7 true h (fun k=>bq (binV Tryd.prog .sub 3 (.tmp 16) (.const (Value.int .i64 1)) t16 (Value.int .i64 1) h) fun v=>k v h) fun t17 h =>
 guardQ t7 true h (fun k=>bq (binV Tryd.prog .lss 3 (.tmp 11) (.tmp 17) t11 t17 h) fun v=>k v h) fun t18 h =>
 bq (pickV t7 t18 (Value.bool false)) fun t19 =>
 condP (some t19)
 (let t20:Value:=t0
 bq (nilV Tryd.prog t20) fun t21 =>
 bq (fa 1 1 t21) fun t22 =>
 bq (ld1 h t22) fun t23 =>
 bq (binV Tryd.prog .add 3 (.tmp 23) (.const (Value.int .i64 1)) t23 (Value.int .i64 1) h) fun t24 =>
 bq (nilV Tryd.prog t20) fun t25 =>
 bq (fa 1 1 t25) fun t26 =>
 bq (stN 1 h t26 t24) fun h=>(fun _ h =>
 Q (.ret (.tuple [].toArray)) h) undef h)
 (Q (.ret (.tuple [].toArray)) h)
theorem X16_eq (t0:Value) (h:AH) (Q:RQ):X16 t0 h Q=wpC Tryd.prog L16 code16 (argA [t0] Tryd.f16.ntmps) h (retK Tryd.prog res16 Q):=by kernel_rfl
theorem X16_body:Tryd.f16.body=some code16:=by kernel_rfl
theorem X16_ok {t0:Value} {h:AH} {Q:RQ} (H:X16 t0 h Q):HC Tryd.prog 16 [t0].toArray h Q:=HC.body Tryd.func16 X16_body ((X16_eq t0 h Q).mp H)
noncomputable def code17:Code:=match Tryd.f17.body with | some c=>c | none=>.skip
noncomputable def res17:List ResultVar:=Tryd.f17.results.toList
def L17:Nat→Option (List Nat):=fun r=>if r=17 then some [0,1,4,6,7,9] else if r=26 then some [0,1,4,6,7,8] else if r=28 then some [4,7,8] else none
noncomputable def H17_17 (t0 t1 t4 t6 t7 t9:Value) (h:AH) (Q:RQ):Prop:=HL Tryd.prog (cAt code17 [.r,.r,.r,.r,.l,.i,.r,.r,.r,.l,.r,.l,.r,.i,.i]) (mkA 105 [(0,t0),(1,t1),(4,t4),(6,t6),(7,t7),(9,t9)]) h (ctxAt Tryd.prog L17 code17 [.r,.r,.r,.r,.l,.i,.r,.r,.r,.l,.r,.l,.r,.i] (retK Tryd.prog res17 Q))
noncomputable def J17_26 (t0 t1 t4 t6 t7 t8:Value) (h:AH) (Q:RQ):Prop:=wpC Tryd.prog L17 (cAt code17 [.r,.r,.r,.r,.r]) (mkA 105 [(0,t0),(1,t1),(4,t4),(6,t6),(7,t7),(8,t8)]) h (ctxAt Tryd.prog L17 code17 [.r,.r,.r,.r,.r] (retK Tryd.prog res17 Q))
noncomputable def K17_26 (t0 t1 t4 t6 t7 t8:Value) (h:AH) (Q:RQ):Prop:=(ctxAt Tryd.prog L17 code17 [.r,.r,.r,.r,.l] (retK Tryd.prog res17 Q)) .normal (mkA 105 [(0,t0),(1,t1),(4,t4),(6,t6),(7,t7),(8,t8)]) h
theorem K17_26_eq (t0 t1 t4 t6 t7 t8:Value) (h:AH) (Q:RQ):J17_26 t0 t1 t4 t6 t7 t8 h Q=K17_26 t0 t1 t4 t6 t7 t8 h Q:=join_eq (p:=[.r,.r,.r,.r]) (code:=code17) (by kernel_rfl) (by kernel_rfl)
noncomputable def J17_28 (t4 t7 t8:Value) (h:AH) (Q:RQ):Prop:=wpC Tryd.prog L17 (cAt code17 [.r,.r,.r,.r,.r,.r]) (mkA 105 [(4,t4),(7,t7),(8,t8)]) h (ctxAt Tryd.prog L17 code17 [.r,.r,.r,.r,.r,.r] (retK Tryd.prog res17 Q))
noncomputable def K17_28 (t4 t7 t8:Value) (h:AH) (Q:RQ):Prop:=(ctxAt Tryd.prog L17 code17 [.r,.r,.r,.r,.r,.l] (retK Tryd.prog res17 Q)) .normal (mkA 105 [(4,t4),(7,t7),(8,t8)]) h
theorem K17_28_eq (t4 t7 t8:Value) (h:AH) (Q:RQ):J17_28 t4 t7 t8 h Q=K17_28 t4 t7 t8 h Q:=join_eq (p:=[.r,.r,.r,.r,.r]) (code:=code17) (by kernel_rfl) (by kernel_rfl)
noncomputable def X17_28 (t4 t7 t8:Value) (h:AH) (Q:RQ):Prop :=
 bq (ldN 5 h t7) fun t103 =>
 let t104:Value:=t8
 bq (stN 5 h t4 t103) fun h=>(fun _ h =>
 let t5:Value:=t104
 bq (seqO [ldN 5 h t4,some t5]) fun vs=>Q (.ret (oneOf vs)) h) undef h
theorem X17_28_eq (t4 t7 t8:Value) (h:AH) (Q:RQ):X17_28 t4 t7 t8 h Q=wpC Tryd.prog L17 (cAt code17 [.r,.r,.r,.r,.r,.r]) (mkA 105 [(4,t4),(7,t7),(8,t8)]) h (ctxAt Tryd.prog L17 code17 [.r,.r,.r,.r,.r,.r] (retK Tryd.prog res17 Q)):=by kernel_rfl
theorem X17_28_ok {t4 t7 t8:Value} {h:AH} {Q:RQ} (H:X17_28 t4 t7 t8 h Q):K17_28 t4 t7 t8 h Q:=(K17_28_eq t4 t7 t8 h Q).mp (((X17_28_eq t4 t7 t8 h Q).mp H))
noncomputable def X17_26 (t0 t1 t4 t6 t7 t8:Value) (h:AH) (Q:RQ):Prop :=
 let t85:Value:=t0
 bq (nilV Tryd.prog t85) fun t86 =>
 bq (fa 6 1 t86) fun t87 =>
 bq (ld1 h t87) fun t88 =>
 bq (binV Tryd.prog .eql 3 (.tmp 88) (.const (Value.int .i64 0)) t88 (Value.int .i64 0) h) fun t89 =>
 let t90:Value:=t89
 guardQ t90 true h (fun k=>k t1 h) fun t91 h =>
 guardQ t90 true h (fun k=>bq (binV Tryd.prog .neq 5 (.tmp 91) (.const (Value.int .u8 0)) t91 (Value.int .u8 0) h) fun v=>k v h) fun t92 h =>
 bq (pickV t90 t92 (Value.bool false)) fun t93 =>
 let t94:Value:=t93
 guardQ t94 true h (fun k=>k t8 h) fun t95 h =>
 guardQ t94 true h (fun k=>k t1 h) fun t96 h =>
 guardQ t94 true h (fun k=>bq (binV Tryd.prog .neq 5 (.tmp 95) (.tmp 96) t95 t96 h) fun v=>k v h) fun t97 h =>
 bq (pickV t94 t97 (Value.bool false)) fun t98 =>
 condP (some t98)
 (let t99:Value:=t0
 bq (fa 1 1 t6) fun t100 =>
 bq (ld1 h t100) fun t101 =>
 HC Tryd.prog 19 (([]:List Value)++[t99,(Value.int .i64 163),t101]++([]:List Value)).toArray h (resK (fun t102 h =>
 K17_28 t4 t7 t8 h Q) (fun v h=>Q (.pan v) h)))
 (K17_28 t4 t7 t8 h Q)
theorem X17_26_eq (t0 t1 t4 t6 t7 t8:Value) (h:AH) (Q:RQ):X17_26 t0 t1 t4 t6 t7 t8 h Q=wpC Tryd.prog L17 (cAt code17 [.r,.r,.r,.r,.r]) (mkA 105 [(0,t0),(1,t1),(4,t4),(6,t6),(7,t7),(8,t8)]) h (ctxAt Tryd.prog L17 code17 [.r,.r,.r,.r,.r] (retK Tryd.prog res17 Q)):=by kernel_rfl
theorem X17_26_ok {t0 t1 t4 t6 t7 t8:Value} {h:AH} {Q:RQ} (H:X17_26 t0 t1 t4 t6 t7 t8 h Q):K17_26 t0 t1 t4 t6 t7 t8 h Q:=(K17_26_eq t0 t1 t4 t6 t7 t8 h Q).mp (((X17_26_eq t0 t1 t4 t6 t7 t8 h Q).mp H))
noncomputable def X17_17 (t0 t1 t4 t6 t7 t9:Value) (h:AH) (Q:RQ):Prop :=
 let t55:Value:=t9
 bq (fa 2 1 t6) fun t56 =>
 bq (ld1 h t56) fun t57 =>
 bq (lenS t57) fun t58 =>
 bq (binV Tryd.prog .lss 3 (.tmp 55) (.tmp 58) t55 t58 h) fun t59 =>
 condP (some t59)
 (bq (fa 2 1 t7) fun t62 =>
 bq (ld1 h t62) fun t63 =>
 bq (binV Tryd.prog .mul 3 (.const (Value.int .i64 10)) (.tmp 63) (Value.int .i64 10) t63 h) fun t64 =>
 bq (fa 2 1 t6) fun t65 =>
 bq (ld1 h t65) fun t66 =>
 let t67:Value:=t9
 bq (ixS t66 t67) fun t68 =>
 bq (binV Tryd.prog .sub 5 (.tmp 68) (.const (Value.int .u8 48)) t68 (Value.int .u8 48) h) fun t69 =>
 bq (convV Tryd.prog 5 3 t69 h) fun r=>(fun t70 h =>
 bq (binV Tryd.prog .add 3 (.tmp 64) (.tmp 70) t64 t70 h) fun t71 =>
 bq (fa 2 1 t7) fun t72 =>
 bq (stN 1 h t72 t71) fun h=>(fun q19_11 h =>
 (True) ∧
 let t60:Value:=t9
 bq (binV Tryd.prog .add 3 (.tmp 60) (.const (Value.int .i64 1)) t60 (Value.int .i64 1) h) fun t61 =>
 let t9:Value:=t61
 H17_17 t0 t1 t4 t6 t7 t9 h Q) undef h) r.1 r.2)
 (let t8:Value:=(Value.int .u8 110)
 let t73:Value:=t0
 HC Tryd.prog 16 (([]:List Value)++[t73]++([]:List Value)).toArray h (resK (fun t74 h =>
 K17_26 t0 t1 t4 t6 t7 t8 h Q) (fun v h=>Q (.pan v) h)))
theorem X17_17_eq (t0 t1 t4 t6 t7 t9:Value) (h:AH) (Q:RQ):X17_17 t0 t1 t4 t6 t7 t9 h Q=wpC Tryd.prog L17 (cAt code17 [.r,.r,.r,.r,.l,.i,.r,.r,.r,.l,.r,.l,.r,.i,.i]) (mkA 105 [(0,t0),(1,t1),(4,t4),(6,t6),(7,t7),(9,t9)]) h (ctxAt Tryd.prog L17 code17 [.r,.r,.r,.r,.l,.i,.r,.r,.r,.l,.r,.l,.r,.i,.i] (retK Tryd.prog res17 Q)):=by kernel_rfl
theorem X17_17_ok {t0 t1 t4 t6 t7 t9:Value} {h:AH} {Q:RQ} (H:X17_17 t0 t1 t4 t6 t7 t9 h Q):H17_17 t0 t1 t4 t6 t7 t9 h Q:=HL.step (L:=L17) ((X17_17_eq t0 t1 t4 t6 t7 t9 h Q).mp H)
noncomputable def X17 (t0 t1:Value) (h:AH) (Q:RQ):Prop :=
 (fun t4 h =>
 let t5:Value:=(Value.int .u8 0)
 let t10:Value:=t0
 HC Tryd.prog 18 (([]:List Value)++[t10]++([]:List Value)).toArray h (resK (fun t11 h =>
 (fun t6 h =>
 bq (stN 3 h t6 t11) fun h=>(fun _ h =>
 bq (fa 1 1 t6) fun t12 =>
 bq (ld1 h t12) fun t13 =>
 bq (bd #[(Value.string (ByteArray.mk #[])),(Value.int .i64 0),(Value.int .i64 0),(Value.string (ByteArray.mk #[])),(Value.slice none 0 0)] [(1,1,t13)]) fun t14 =>
 (fun t7 h =>
 bq (stN 5 h t7 t14) fun h=>(fun _ h =>
 let t8:Value:=(Value.int .u8 0)
 let t44:Value:=t0
 bq (nilV Tryd.prog t44) fun t45 =>
 bq (fa 6 1 t45) fun t46 =>
 bq (ld1 h t46) fun t47 =>
 bq (binV Tryd.prog .neq 3 (.tmp 47) (.const (Value.int .i64 0)) t47 (Value.int .i64 0) h) fun t48 =>
 let t43:Value:=t48
 condP (some t43)
 (bq (ldN 5 h t7) fun t49 =>
 bq (stN 5 h t4 t49) fun h=>(fun _ h =>
 let t5:Value:=(Value.int .u8 0)
 bq (seqO [ldN 5 h t4,some t5]) fun vs=>Q (.ret (oneOf vs)) h) undef h)
 (bq (fa 0 1 t6) fun t51 =>
 bq (ld1 h t51) fun t52 =>
 bq (binV Tryd.prog .eql 3 (.tmp 52) (.const (Value.int .i64 2)) t52 (Value.int .i64 2) h) fun t53 =>
 let t50:Value:=t53
 condP (some t50)
 (bq (fa 0 1 t7) fun t54 =>
 bq (stN 1 h t54 (Value.string (ByteArray.mk #[110,117,109,98,101,114]))) fun h=>(fun _ h =>
 let t9:Value:=(Value.int .i64 0)
 H17_17 t0 t1 t4 t6 t7 t9 h Q) undef h)
 (bq (fa 0 1 t6) fun t76 =>
 bq (ld1 h t76) fun t77 =>
 bq (binV Tryd.prog .eql 3 (.tmp 77) (.const (Value.int .i64 3)) t77 (Value.int .i64 3) h) fun t78 =>
 let t75:Value:=t78
 condP (some t75)
 (bq (fa 2 1 t6) fun t79 =>
 bq (ld1 h t79) fun t80 =>
 bq (fa 0 1 t7) fun t81 =>
 bq (stN 1 h t81 (Value.string (ByteArray.mk #[115,116,114,105,110,103]))) fun h=>(fun q23_3 h =>
 ((bq (ld1 h t79) fun u=>(u=t80))∧(True)) ∧
 bq (fa 3 1 t7) fun t82 =>
 bq (stN 1 h t82 t80) fun h=>(fun q23_5 h =>
 (True) ∧
 let t8:Value:=(Value.int .u8 116)
 let t83:Value:=t0
 HC Tryd.prog 16 (([]:List Value)++[t83]++([]:List Value)).toArray h (resK (fun t84 h =>
 K17_26 t0 t1 t4 t6 t7 t8 h Q) (fun v h=>Q (.pan v) h))) undef h) undef h)
 (let t15:Value:=t0
 HC Tryd.prog 32 (([]:List Value)++[t15]++([]:List Value)).toArray h (resK (fun t16 h =>
 let t17:Value:=t0
 HC Tryd.prog 15 (([]:List Value)++[t17,(Value.int .i64 4),(Value.string (ByteArray.mk #[40]))]++([]:List Value)).toArray h (resK (fun t18 h =>
 condP (some t18)
 (let t20:Value:=t0
 bq (ldN 3 h t6) fun t21 =>
 HC Tryd.prog 33 (([]:List Value)++[t20,t21]++([]:List Value)).toArray h (resK (fun t22 h =>
 let t19:Value:=t22
 bq (opExtract t19 0) fun t23 =>
 bq (opExtract t19 1) fun t24 =>
 bq (fa 4 1 t7) fun t25 =>
 bq (stN 1 h t25 t23) fun h=>(fun _ h =>
 let t8:Value:=t24
 bq (fa 2 1 t6) fun t26 =>
 bq (ld1 h t26) fun t27 =>
 bq (fa 0 1 t7) fun t28 =>
 bq (stN 1 h t28 t27) fun h=>(fun _ h =>
 K17_26 t0 t1 t4 t6 t7 t8 h Q) undef h) undef h) (fun v h=>Q (.pan v) h)))
 (let t29:Value:=t0
 bq (fa 2 1 t6) fun t30 =>
 bq (ld1 h t30) fun t31 =>
 HC Tryd.prog 34 (([]:List Value)++[t29,t31]++([]:List Value)).toArray h (resK (fun t32 h =>
 let t8:Value:=t32
 bq (fa 2 1 t6) fun t33 =>
 bq (ld1 h t33) fun t34 =>
 bq (fa 0 1 t7) fun t35 =>
 bq (stN 1 h t35 (Value.string (ByteArray.mk #[118,97,114]))) fun h=>(fun q9_3 h =>
 ((bq (ld1 h t33) fun u=>(u=t34))∧(True)) ∧
 bq (fa 3 1 t7) fun t36 =>
 bq (stN 1 h t36 t34) fun h=>(fun q9_5 h =>
 (True) ∧
 let t37:Value:=t8
 bq (binV Tryd.prog .eql 5 (.tmp 37) (.const (Value.int .u8 0)) t37 (Value.int .u8 0) h) fun t38 =>
 condP (some t38)
 (let t39:Value:=t0
 bq (fa 1 1 t6) fun t40 =>
 bq (ld1 h t40) fun t41 =>
 HC Tryd.prog 19 (([]:List Value)++[t39,(Value.int .i64 162),t41]++([]:List Value)).toArray h (resK (fun t42 h =>
 K17_26 t0 t1 t4 t6 t7 t8 h Q) (fun v h=>Q (.pan v) h)))
 (K17_26 t0 t1 t4 t6 t7 t8 h Q)) undef h) undef h) (fun v h=>Q (.pan v) h)))) (fun v h=>Q (.pan v) h))) (fun v h=>Q (.pan v) h)))))) undef h) (opNew h 32 #[(Value.string (ByteArray.mk #[])),(Value.int .i64 0),(Value.int .i64 0),(Value.string (ByteArray.mk #[])),(Value.slice none 0 0)]).1 (opNew h 32 #[(Value.string (ByteArray.mk #[])),(Value.int .i64 0),(Value.int .i64 0),(Value.string (ByteArray.mk #[])),(Value.slice none 0 0)]).2) undef h) (opNew h 72 #[(Value.int .i64 0),(Value.int .i64 0),(Value.string (ByteArray.mk #[]))]).1 (opNew h 72 #[(Value.int .i64 0),(Value.int .i64 0),(Value.string (ByteArray.mk #[]))]).2) (fun v h=>Q (.pan v) h))) (opNew h 32 #[(Value.string (ByteArray.mk #[])),(Value.int .i64 0),(Value.int .i64 0),(Value.string (ByteArray.mk #[])),(Value.slice none 0 0)]).1 (opNew h 32 #[(Value.string (ByteArray.mk #[])),(Value.int .i64 0),(Value.int .i64 0),(Value.string (ByteArray.mk #[])),(Value.slice none 0 0)]).2
theorem X17_eq (t0 t1:Value) (h:AH) (Q:RQ):X17 t0 t1 h Q=wpC Tryd.prog L17 code17 (argA [t0,t1] Tryd.f17.ntmps) h (retK Tryd.prog res17 Q):=by kernel_rfl
theorem X17_body:Tryd.f17.body=some code17:=by kernel_rfl
theorem X17_ok {t0 t1:Value} {h:AH} {Q:RQ} (H:X17 t0 t1 h Q):HC Tryd.prog 17 [t0,t1].toArray h Q:=HC.body Tryd.func17 X17_body ((X17_eq t0 t1 h Q).mp H)
noncomputable def code18:Code:=match Tryd.f18.body with | some c=>c | none=>.skip
noncomputable def res18:List ResultVar:=Tryd.f18.results.toList
def L18:Nat→Option (List Nat):=fun r=>none
noncomputable def X18 (t0:Value) (h:AH) (Q:RQ):Prop :=
 (fun t2 h =>
 let t3:Value:=t0
 bq (nilV Tryd.prog t3) fun t4 =>
 bq (fa 0 1 t4) fun t5 =>
 bq (ld1 h t5) fun t6 =>
 let t7:Value:=t0
 bq (nilV Tryd.prog t7) fun t8 =>
 bq (fa 1 1 t8) fun t9 =>
 bq (ld1 h t9) fun t10 =>
 bq (ia 3 t6 t10) fun t11 =>
 bq (ldN 3 h t11) fun t12 =>
 bq (stN 3 h t2 t12) fun h=>(fun q1_10 h =>
 (True) ∧
 bq (seqO [ldN 3 h t2]) fun vs=>Q (.ret (oneOf vs)) h) undef h) (opNew h 72 #[(Value.int .i64 0),(Value.int .i64 0),(Value.string (ByteArray.mk #[]))]).1 (opNew h 72 #[(Value.int .i64 0),(Value.int .i64 0),(Value.string (ByteArray.mk #[]))]).2
theorem X18_eq (t0:Value) (h:AH) (Q:RQ):X18 t0 h Q=wpC Tryd.prog L18 code18 (argA [t0] Tryd.f18.ntmps) h (retK Tryd.prog res18 Q):=by kernel_rfl
theorem X18_body:Tryd.f18.body=some code18:=by kernel_rfl
theorem X18_ok {t0:Value} {h:AH} {Q:RQ} (H:X18 t0 h Q):HC Tryd.prog 18 [t0].toArray h Q:=HC.body Tryd.func18 X18_body ((X18_eq t0 h Q).mp H)
noncomputable def code19:Code:=match Tryd.f19.body with | some c=>c | none=>.skip
noncomputable def res19:List ResultVar:=Tryd.f19.results.toList
def L19:Nat→Option (List Nat):=fun r=>none
noncomputable def X19 (t0 t1 t2:Value) (h:AH) (Q:RQ):Prop :=
 let t6:Value:=t0
 bq (nilV Tryd.prog t6) fun t7 =>
 bq (fa 6 1 t7) fun t8 =>
 bq (ld1 h t8) fun t9 =>
 bq (binV Tryd.prog .eql 3 (.tmp 9) (.const (Value.int .i64 0)) t9 (Value.int .i64 0) h) fun t10 =>
 condP (some t10)
 (let t11:Value:=t0
 let t12:Value:=t0
 let t13:Value:=t1
 let t14:Value:=t2
 bq (nilV Tryd.prog t11) fun t15 =>
 bq (fa 6 1 t15) fun t16 =>
 bq (stN 1 h t16 t13) fun h=>(fun _ h =>
 bq (nilV Tryd.prog t12) fun t17 =>
 bq (fa 7 1 t17) fun t18 =>
 bq (stN 1 h t18 t14) fun h=>(fun _ h =>
 Q (.ret (.tuple [].toArray)) h) undef h) undef h)
 (Q (.ret (.tuple [].toArray)) h)
theorem X19_eq (t0 t1 t2:Value) (h:AH) (Q:RQ):X19 t0 t1 t2 h Q=wpC Tryd.prog L19 code19 (argA [t0,t1,t2] Tryd.f19.ntmps) h (retK Tryd.prog res19 Q):=by kernel_rfl
theorem X19_body:Tryd.f19.body=some code19:=by kernel_rfl
theorem X19_ok {t0 t1 t2:Value} {h:AH} {Q:RQ} (H:X19 t0 t1 t2 h Q):HC Tryd.prog 19 [t0,t1,t2].toArray h Q:=HC.body Tryd.func19 X19_body ((X19_eq t0 t1 t2 h Q).mp H)
noncomputable def code29:Code:=match Tryd.f29.body with | some c=>c | none=>.skip
noncomputable def res29:List ResultVar:=Tryd.f29.results.toList
def L29:Nat→Option (List Nat):=fun r=>none
noncomputable def X29 (t0:Value) (h:AH) (Q:RQ):Prop :=
 let t2:Value:=(Value.bool false)
 let t3:Value:=t0
 bq (binV Tryd.prog .geq 5 (.tmp 3) (.const (Value.int .u8 97)) t3 (Value.int .u8 97) h) fun t4 =>
 let t5:Value:=t4
 guardQ t5 true h (fun k=>k t0 h) fun t6 h =>
 guardQ t5 true h (fun k=>bq (binV Tryd.prog .leq 5 (.tmp 6) (.const (Value.int .u8 122)) t6 (Value.int .u8 122) h) fun v=>k v h) fun t7 h =>
 bq (pickV t5 t7 (Value.bool false)) fun t8 =>
 let t9:Value:=t8
 guardQ t9 false h (fun k=>k t0 h) fun t10 h =>
 guardQ t9 false h (fun k=>bq (binV Tryd.prog .geq 5 (.tmp 10) (.const (Value.int .u8 65)) t10 (Value.int .u8 65) h) fun v=>k v h) fun t11 h =>
 guardQ t9 false h (fun k=>k t11 h) fun t12 h =>
 guardQ t12 true h (fun k=>k t0 h) fun t13 h =>
 guardQ t12 true h (fun k=>bq (binV Tryd.prog .leq 5 (.tmp 13) (.const (Value.int .u8 90)) t13 (Value.int .u8 90) h) fun v=>k v h) fun t14 h =>
 guardQ t9 false h (fun k=>bq (pickV t12 t14 (Value.bool false)) fun v=>k v h) fun t15 h =>
 bq (pickV t9 (Value.bool true) t15) fun t16 =>
 let t2:Value:=t16
 Q (.ret t2) h
theorem X29_eq (t0:Value) (h:AH) (Q:RQ):X29 t0 h Q=wpC Tryd.prog L29 code29 (argA [t0] Tryd.f29.ntmps) h (retK Tryd.prog res29 Q):=by kernel_rfl
theorem X29_body:Tryd.f29.body=some code29:=by kernel_rfl
theorem X29_ok {t0:Value} {h:AH} {Q:RQ} (H:X29 t0 h Q):HC Tryd.prog 29 [t0].toArray h Q:=HC.body Tryd.func29 X29_body ((X29_eq t0 h Q).mp H)
noncomputable def code30:Code:=match Tryd.f30.body with | some c=>c | none=>.skip
noncomputable def res30:List ResultVar:=Tryd.f30.results.toList
def L30:Nat→Option (List Nat):=fun r=>none
noncomputable def X30 (t0:Value) (h:AH) (Q:RQ):Prop :=
 let t2:Value:=(Value.bool false)
 let t3:Value:=t0
 bq (binV Tryd.prog .geq 5 (.tmp 3) (.const (Value.int .u8 48)) t3 (Value.int .u8 48) h) fun t4 =>
 let t5:Value:=t4
 guardQ t5 true h (fun k=>k t0 h) fun t6 h =>
 guardQ t5 true h (fun k=>bq (binV Tryd.prog .leq 5 (.tmp 6) (.const (Value.int .u8 57)) t6 (Value.int .u8 57) h) fun v=>k v h) fun t7 h =>
 bq (pickV t5 t7 (Value.bool false)) fun t8 =>
 let t2:Value:=t8
 Q (.ret t2) h
theorem X30_eq (t0:Value) (h:AH) (Q:RQ):X30 t0 h Q=wpC Tryd.prog L30 code30 (argA [t0] Tryd.f30.ntmps) h (retK Tryd.prog res30 Q):=by kernel_rfl
theorem X30_body:Tryd.f30.body=some code30:=by kernel_rfl
theorem X30_ok {t0:Value} {h:AH} {Q:RQ} (H:X30 t0 h Q):HC Tryd.prog 30 [t0].toArray h Q:=HC.body Tryd.func30 X30_body ((X30_eq t0 h Q).mp H)
noncomputable def code32:Code:=match Tryd.f32.body with | some c=>c | none=>.skip
noncomputable def res32:List ResultVar:=Tryd.f32.results.toList
def L32:Nat→Option (List Nat):=fun r=>if r=4 then some [0,2,3] else none
noncomputable def J32_4 (t0 t2 t3:Value) (h:AH) (Q:RQ):Prop:=wpC Tryd.prog L32 (cAt code32 [.r,.r,.r]) (mkA 21 [(0,t0),(2,t2),(3,t3)]) h (ctxAt Tryd.prog L32 code32 [.r,.r,.r] (retK Tryd.prog res32 Q))
noncomputable def K32_4 (t0 t2 t3:Value) (h:AH) (Q:RQ):Prop:=(ctxAt Tryd.prog L32 code32 [.r,.r,.l] (retK Tryd.prog res32 Q)) .normal (mkA 21 [(0,t0),(2,t2),(3,t3)]) h
theorem K32_4_eq (t0 t2 t3:Value) (h:AH) (Q:RQ):J32_4 t0 t2 t3 h Q=K32_4 t0 t2 t3 h Q:=join_eq (p:=[.r,.r]) (code:=code32) (by kernel_rfl) (by kernel_rfl)
noncomputable def X32_4 (t0 t2 t3:Value) (h:AH) (Q:RQ):Prop :=
 let t18:Value:=t0
 HC Tryd.prog 16 (([]:List Value)++[t18]++([]:List Value)).toArray h (resK (fun t19 h =>
 bq (ldN 3 h t3) fun t20 =>
 bq (stN 3 h t2 t20) fun h=>(fun _ h =>
 bq (seqO [ldN 3 h t2]) fun vs=>Q (.ret (oneOf vs)) h) undef h) (fun v h=>Q (.pan v) h))
theorem X32_4_eq (t0 t2 t3:Value) (h:AH) (Q:RQ):X32_4 t0 t2 t3 h Q=wpC Tryd.prog L32 (cAt code32 [.r,.r,.r]) (mkA 21 [(0,t0),(2,t2),(3,t3)]) h (ctxAt Tryd.prog L32 code32 [.r,.r,.r] (retK Tryd.prog res32 Q)):=by kernel_rfl
theorem X32_4_ok {t0 t2 t3:Value} {h:AH} {Q:RQ} (H:X32_4 t0 t2 t3 h Q):K32_4 t0 t2 t3 h Q:=(K32_4_eq t0 t2 t3 h Q).mp (((X32_4_eq t0 t2 t3 h Q).mp H))
noncomputable def X32 (t0:Value) (h:AH) (Q:RQ):Prop :=
 (fun t2 h =>
 let t4:Value:=t0
 HC Tryd.prog 18 (([]:List Value)++[t4]++([]:List Value)).toArray h (resK (fun t5 h =>
 (fun t3 h =>
 bq (stN 3 h t3 t5) fun h=>(fun _ h =>
 bq (fa 0 1 t3) fun t6 =>
 bq (ld1 h t6) fun t7 =>
 bq (binV Tryd.prog .neq 3 (.tmp 7) (.const (Value.int .i64 1)) t7 (Value.int .i64 1) h) fun t8 =>
 let t9:Value:=t8
 guardQ t9 false h (fun k=>bq (fa 2 1 t3) fun v=>k v h) fun t10 h =>
 guardQ t9 false h (fun k=>bq (ld1 h t10) fun v=>k v h) fun t11 h =>
 guardQ t9 false h (fun k=>HC Tryd.prog 41 (([]:List Value)++[t11]++([]:List Value)).toArray h (resK k (fun v h=>Q (.pan v) h))) fun t12 h =>
 bq (pickV t9 (Value.bool true) t12) fun t13 =>
 condP (some t13)
 (let t14:Value:=t0
 bq (fa 1 1 t3) fun t15 =>
 bq (ld1 h t15) fun t16 =>
 HC Tryd.prog 19 (([]:List Value)++[t14,(Value.int .i64 161),t16]++([]:List Value)).toArray h (resK (fun t17 h =>
 K32_4 t0 t2 t3 h Q) (fun v h=>Q (.pan v) h)))
 (K32_4 t0 t2 t3 h Q)) undef h) (opNew h 72 #[(Value.int .i64 0),(Value.int .i64 0),(Value.string (ByteArray.mk #[]))]).1 (opNew h 72 #[(Value.int .i64 0),(Value.int .i64 0),(Value.string (ByteArray.mk #[]))]).2) (fun v h=>Q (.pan v) h))) (opNew h 72 #[(Value.int .i64 0),(Value.int .i64 0),(Value.string (ByteArray.mk #[]))]).1 (opNew h 72 #[(Value.int .i64 0),(Value.int .i64 0),(Value.string (ByteArray.mk #[]))]).2
theorem X32_eq (t0:Value) (h:AH) (Q:RQ):X32 t0 h Q=wpC Tryd.prog L32 code32 (argA [t0] Tryd.f32.ntmps) h (retK Tryd.prog res32 Q):=by kernel_rfl
theorem X32_body:Tryd.f32.body=some code32:=by kernel_rfl
theorem X32_ok {t0:Value} {h:AH} {Q:RQ} (H:X32 t0 h Q):HC Tryd.prog 32 [t0].toArray h Q:=HC.body Tryd.func32 X32_body ((X32_eq t0 h Q).mp H)
noncomputable def code33:Code:=match Tryd.f33.body with | some c=>c | none=>.skip
noncomputable def res33:List ResultVar:=Tryd.f33.results.toList
def L33:Nat→Option (List Nat):=fun r=>if r=12 then some [0,6,7,8,9] else if r=16 then some [0,6,7,8,9] else none
noncomputable def H33_12 (t0 t6 t7 t8 t9:Value) (h:AH) (Q:RQ):Prop:=HL Tryd.prog (cAt code33 [.r,.r,.r,.r,.r,.r,.r,.l,.r,.i,.i]) (mkA 83 [(0,t0),(6,t6),(7,t7),(8,t8),(9,t9)]) h (ctxAt Tryd.prog L33 code33 [.r,.r,.r,.r,.r,.r,.r,.l,.r,.i] (retK Tryd.prog res33 Q))
noncomputable def J33_16 (t0 t6 t7 t8 t9:Value) (h:AH) (Q:RQ):Prop:=wpC Tryd.prog L33 (cAt code33 [.r,.r,.r,.r,.r,.r,.r,.l,.r,.i,.i,.r,.l,.i,.r]) (mkA 83 [(0,t0),(6,t6),(7,t7),(8,t8),(9,t9)]) h (ctxAt Tryd.prog L33 code33 [.r,.r,.r,.r,.r,.r,.r,.l,.r,.i,.i,.r,.l,.i,.r] (retK Tryd.prog res33 Q))
noncomputable def K33_16 (t0 t6 t7 t8 t9:Value) (h:AH) (Q:RQ):Prop:=(ctxAt Tryd.prog L33 code33 [.r,.r,.r,.r,.r,.r,.r,.l,.r,.i,.i,.r,.l,.i,.l] (retK Tryd.prog res33 Q)) .normal (mkA 83 [(0,t0),(6,t6),(7,t7),(8,t8),(9,t9)]) h
theorem K33_16_eq (t0 t6 t7 t8 t9:Value) (h:AH) (Q:RQ):J33_16 t0 t6 t7 t8 t9 h Q=K33_16 t0 t6 t7 t8 t9 h Q:=join_eq (p:=[.r,.r,.r,.r,.r,.r,.r,.l,.r,.i,.i,.r,.l,.i]) (code:=code33) (by kernel_rfl) (by kernel_rfl)
noncomputable def X33_16 (t0 t6 t7 t8 t9:Value) (h:AH) (Q:RQ):Prop :=
 let t61:Value:=t0
 let t62:Value:=t6
 let t63:Value:=t9
 bq (ixS t62 t63) fun t64 =>
 HC Tryd.prog 17 (([]:List Value)++[t61,t64]++([]:List Value)).toArray h (resK (fun t65 h =>
 let t60:Value:=t65
 bq (opExtract t60 0) fun t66 =>
 bq (opExtract t60 1) fun t67 =>
 (fun t10 h =>
 bq (stN 5 h t10 t66) fun h=>(fun _ h =>
 let t11:Value:=t67
 let t68:Value:=t8
 bq (ldN 5 h t10) fun t69 =>
 bq (bs 32 #[(Value.string (ByteArray.mk #[])),(Value.int .i64 0),(Value.int .i64 0),(Value.string (ByteArray.mk #[])),(Value.slice none 0 0)] 1 h [(0,5,t69)]) fun r=>(fun t70 h =>
 bq (apT 32 5 72 (some (Value.agg #[(Value.string (ByteArray.mk #[])),(Value.int .i64 0),(Value.int .i64 0),(Value.string (ByteArray.mk #[])),(Value.slice none 0 0)])) h t68 t70) fun r=>(fun t71 h =>
 let t8:Value:=t71
 let t54:Value:=t9
 bq (binV Tryd.prog .add 3 (.tmp 54) (.const (Value.int .i64 1)) t54 (Value.int .i64 1) h) fun t55 =>
 let t9:Value:=t55
 H33_12 t0 t6 t7 t8 t9 h Q) r.1 r.2) r.1 r.2) undef h) (opNew h 32 #[(Value.string (ByteArray.mk #[])),(Value.int .i64 0),(Value.int .i64 0),(Value.string (ByteArray.mk #[])),(Value.slice none 0 0)]).1 (opNew h 32 #[(Value.string (ByteArray.mk #[])),(Value.int .i64 0),(Value.int .i64 0),(Value.string (ByteArray.mk #[])),(Value.slice none 0 0)]).2) (fun v h=>Q (.pan v) h))
theorem X33_16_eq (t0 t6 t7 t8 t9:Value) (h:AH) (Q:RQ):X33_16 t0 t6 t7 t8 t9 h Q=wpC Tryd.prog L33 (cAt code33 [.r,.r,.r,.r,.r,.r,.r,.l,.r,.i,.i,.r,.l,.i,.r]) (mkA 83 [(0,t0),(6,t6),(7,t7),(8,t8),(9,t9)]) h (ctxAt Tryd.prog L33 code33 [.r,.r,.r,.r,.r,.r,.r,.l,.r,.i,.i,.r,.l,.i,.r] (retK Tryd.prog res33 Q)):=by kernel_rfl
theorem X33_16_ok {t0 t6 t7 t8 t9:Value} {h:AH} {Q:RQ} (H:X33_16 t0 t6 t7 t8 t9 h Q):K33_16 t0 t6 t7 t8 t9 h Q:=(K33_16_eq t0 t6 t7 t8 t9 h Q).mp (((X33_16_eq t0 t6 t7 t8 t9 h Q).mp H))
noncomputable def X33_12 (t0 t6 t7 t8 t9:Value) (h:AH) (Q:RQ):Prop :=
 let t43:Value:=t9
 let t44:Value:=t6
 bq (lenS t44) fun t45 =>
 bq (binV Tryd.prog .lss 3 (.tmp 43) (.tmp 45) t43 t45 h) fun t46 =>
 let t47:Value:=t46
 guardQ t47 true h (fun k=>k t0 h) fun t48 h =>
 guardQ t47 true h (fun k=>bq (nilV Tryd.prog t48) fun v=>k v h) fun t49 h =>
 guardQ t47 true h (fun k=>bq (fa 6 1 t49) fun v=>k v h) fun t50 h =>
 guardQ t47 true h (fun k=>bq (ld1 h t50) fun v=>k v h) fun t51 h =>
 guardQ t47 true h (fun k=>bq (binV Tryd.prog .eql 3 (.tmp 51) (.const (Value.int .i64 0)) t51 (Value.int .i64 0) h) fun v=>k v h) fun t52 h =>
 bq (pickV t47 t52 (Value.bool false)) fun t53 =>
 condP (some t53)
 (let t56:Value:=t9
 bq (binV Tryd.prog .gtr 3 (.tmp 56) (.const (Value.int .i64 0)) t56 (Value.int .i64 0) h) fun t57 =>
 condP (some t57)
 (let t58:Value:=t0
 HC Tryd.prog 13 (([]:List Value)++[t58,(Value.int .i64 4),(Value.string (ByteArray.mk #[44]))]++([]:List Value)).toArray h (resK (fun t59 h =>
 K33_16 t0 t6 t7 t8 t9 h Q) (fun v h=>Q (.pan v) h)))
 (K33_16 t0 t6 t7 t8 t9 h Q))
 (let t72:Value:=t0
 HC Tryd.prog 13 (([]:List Value)++[t72,(Value.int .i64 4),(Value.string (ByteArray.mk #[41]))]++([]:List Value)).toArray h (resK (fun t73 h =>
 let t74:Value:=t0
 bq (nilV Tryd.prog t74) fun t75 =>
 bq (fa 5 1 t75) fun t76 =>
 bq (ld1 h t76) fun t77 =>
 bq (binV Tryd.prog .sub 3 (.tmp 77) (.const (Value.int .i64 1)) t77 (Value.int .i64 1) h) fun t78 =>
 bq (nilV Tryd.prog t74) fun t79 =>
 bq (fa 5 1 t79) fun t80 =>
 bq (stN 1 h t80 t78) fun h=>(fun _ h =>
 let t81:Value:=t8
 let t82:Value:=t7
 let t4:Value:=t81
 let t5:Value:=t82
 Q (.ret (.tuple [t4,t5].toArray)) h) undef h) (fun v h=>Q (.pan v) h)))
theorem X33_12_eq (t0 t6 t7 t8 t9:Value) (h:AH) (Q:RQ):X33_12 t0 t6 t7 t8 t9 h Q=wpC Tryd.prog L33 (cAt code33 [.r,.r,.r,.r,.r,.r,.r,.l,.r,.i,.i]) (mkA 83 [(0,t0),(6,t6),(7,t7),(8,t8),(9,t9)]) h (ctxAt Tryd.prog L33 code33 [.r,.r,.r,.r,.r,.r,.r,.l,.r,.i,.i] (retK Tryd.prog res33 Q)):=by kernel_rfl
theorem X33_12_ok {t0 t6 t7 t8 t9:Value} {h:AH} {Q:RQ} (H:X33_12 t0 t6 t7 t8 t9 h Q):H33_12 t0 t6 t7 t8 t9 h Q:=HL.step (L:=L33) ((X33_12_eq t0 t6 t7 t8 t9 h Q).mp H)
noncomputable def X33 (t0 t1:Value) (h:AH) (Q:RQ):Prop :=
 (fun t3 h =>
 let t4:Value:=(Value.slice none 0 0)
 let t5:Value:=(Value.int .u8 0)
 let t12:Value:=t0
 bq (nilV Tryd.prog t12) fun t13 =>
 bq (fa 5 1 t13) fun t14 =>
 bq (ld1 h t14) fun t15 =>
 bq (binV Tryd.prog .geq 3 (.tmp 15) (.const (Value.int .i64 8)) t15 (Value.int .i64 8) h) fun t16 =>
 condP (some t16)
 (let t17:Value:=t0
 let t18:Value:=t0
 HC Tryd.prog 18 (([]:List Value)++[t18]++([]:List Value)).toArray h (resK (fun t19 h =>
 bq (fd1 1 t19) fun t20 =>
 HC Tryd.prog 19 (([]:List Value)++[t17,(Value.int .i64 164),t20]++([]:List Value)).toArray h (resK (fun t21 h =>
 let t4:Value:=(Value.slice none 0 0)
 let t5:Value:=(Value.int .u8 0)
 Q (.ret (.tuple [t4,t5].toArray)) h) (fun v h=>Q (.pan v) h))) (fun v h=>Q (.pan v) h)))
 (let t22:Value:=t0
 HC Tryd.prog 16 (([]:List Value)++[t22]++([]:List Value)).toArray h (resK (fun t23 h =>
 bq (fa 2 1 t3) fun t25 =>
 bq (ld1 h t25) fun t26 =>
 HC Tryd.prog 42 (([]:List Value)++[t26]++([]:List Value)).toArray h (resK (fun t27 h =>
 let t24:Value:=t27
 bq (opExtract t24 0) fun t28 =>
 bq (opExtract t24 1) fun t29 =>
 let t6:Value:=t28
 let t7:Value:=t29
 let t30:Value:=t6
 bq (binV Tryd.prog .eql 9 (.tmp 30) (.const (Value.string (ByteArray.mk #[]))) t30 (Value.string (ByteArray.mk #[])) h) fun t31 =>
 condP (some t31)
 (let t32:Value:=t0
 bq (fa 1 1 t3) fun t33 =>
 bq (ld1 h t33) fun t34 =>
 HC Tryd.prog 19 (([]:List Value)++[t32,(Value.int .i64 162),t34]++([]:List Value)).toArray h (resK (fun t35 h =>
 let t4:Value:=(Value.slice none 0 0)
 let t5:Value:=(Value.int .u8 0)
 Q (.ret (.tuple [t4,t5].toArray)) h) (fun v h=>Q (.pan v) h)))
 (let t36:Value:=t0
 bq (nilV Tryd.prog t36) fun t37 =>
 bq (fa 5 1 t37) fun t38 =>
 bq (ld1 h t38) fun t39 =>
 bq (binV Tryd.prog .add 3 (.tmp 39) (.const (Value.int .i64 1)) t39 (Value.int .i64 1) h) fun t40 =>
 bq (nilV Tryd.prog t36) fun t41 =>
 bq (fa 5 1 t41) fun t42 =>
 bq (stN 1 h t42 t40) fun h=>(fun _ h =>
 let t8:Value:=(Value.slice none 0 0)
 let t9:Value:=(Value.int .i64 0)
 H33_12 t0 t6 t7 t8 t9 h Q) undef h)) (fun v h=>Q (.pan v) h))) (fun v h=>Q (.pan v) h)))) (opNew h 72 t1.cells).1 (opNew h 72 t1.cells).2
theorem X33_eq (t0 t1:Value) (h:AH) (Q:RQ):X33 t0 t1 h Q=wpC Tryd.prog L33 code33 (argA [t0,t1] Tryd.f33.ntmps) h (retK Tryd.prog res33 Q):=by kernel_rfl
theorem X33_body:Tryd.f33.body=some code33:=by kernel_rfl
theorem X33_ok {t0 t1:Value} {h:AH} {Q:RQ} (H:X33 t0 t1 h Q):HC Tryd.prog 33 [t0,t1].toArray h Q:=HC.body Tryd.func33 X33_body ((X33_eq t0 t1 h Q).mp H)
noncomputable def code34:Code:=match Tryd.f34.body with | some c=>c | none=>.skip
noncomputable def res34:List ResultVar:=Tryd.f34.results.toList
def L34:Nat→Option (List Nat):=fun r=>if r=2 then some [0,1,5] else none
noncomputable def H34_2 (t0 t1 t5:Value) (h:AH) (Q:RQ):Prop:=HL Tryd.prog (cAt code34 [.r,.l,.r,.i,.i]) (mkA 33 [(0,t0),(1,t1),(5,t5)]) h (ctxAt Tryd.prog L34 code34 [.r,.l,.r,.i] (retK Tryd.prog res34 Q))
noncomputable def X34_2 (t0 t1 t5:Value) (h:AH) (Q:RQ):Prop :=
 let t6:Value:=t5
 let t7:Value:=t0
 bq (nilV Tryd.prog t7) fun t8 =>
 bq (fa 2 1 t8) fun t9 =>
 bq (ld1 h t9) fun t10 =>
 bq (lenL t10) fun t11 =>
 bq (binV Tryd.prog .lss 3 (.tmp 6) (.tmp 11) t6 t11 h) fun t12 =>
 condP (some t12)
 (let t15:Value:=t0
 bq (nilV Tryd.prog t15) fun t16 =>
 bq (fa 2 1 t16) fun t17 =>
 bq (ld1 h t17) fun t18 =>
 let t19:Value:=t5
 bq (ia 2 t18 t19) fun t20 =>
 bq (fa 0 1 t20) fun t21 =>
 bq (ld1 h t21) fun t22 =>
 let t23:Value:=t1
 bq (binV Tryd.prog .eql 9 (.tmp 22) (.tmp 23) t22 t23 h) fun t24 =>
 condP (some t24)
 (let t25:Value:=t0
 bq (nilV Tryd.prog t25) fun t26 =>
 bq (fa 2 1 t26) fun t27 =>
 bq (ld1 h t27) fun t28 =>
 let t29:Value:=t5
 bq (ia 2 t28 t29) fun t30 =>
 bq (fa 1 1 t30) fun t31 =>
 bq (ld1 h t31) fun t32 =>
 let t4:Value:=t32
 Q (.ret t4) h)
 (let t13:Value:=t5
 bq (binV Tryd.prog .add 3 (.tmp 13) (.const (Value.int .i64 1)) t13 (Value.int .i64 1) h) fun t14 =>
 let t5:Value:=t14
 H34_2 t0 t1 t5 h Q))
 (let t4:Value:=(Value.int .u8 0)
 Q (.ret t4) h)
theorem X34_2_eq (t0 t1 t5:Value) (h:AH) (Q:RQ):X34_2 t0 t1 t5 h Q=wpC Tryd.prog L34 (cAt code34 [.r,.l,.r,.i,.i]) (mkA 33 [(0,t0),(1,t1),(5,t5)]) h (ctxAt Tryd.prog L34 code34 [.r,.l,.r,.i,.i] (retK Tryd.prog res34 Q)):=by kernel_rfl
theorem X34_2_ok {t0 t1 t5:Value} {h:AH} {Q:RQ} (H:X34_2 t0 t1 t5 h Q):H34_2 t0 t1 t5 h Q:=HL.step (L:=L34) ((X34_2_eq t0 t1 t5 h Q).mp H)
noncomputable def X34 (t0 t1:Value) (h:AH) (Q:RQ):Prop :=
 let t4:Value:=(Value.int .u8 0)
 let t5:Value:=(Value.int .i64 0)
 H34_2 t0 t1 t5 h Q
theorem X34_eq (t0 t1:Value) (h:AH) (Q:RQ):X34 t0 t1 h Q=wpC Tryd.prog L34 code34 (argA [t0,t1] Tryd.f34.ntmps) h (retK Tryd.prog res34 Q):=by kernel_rfl
theorem X34_body:Tryd.f34.body=some code34:=by kernel_rfl
theorem X34_ok {t0 t1:Value} {h:AH} {Q:RQ} (H:X34 t0 t1 h Q):HC Tryd.prog 34 [t0,t1].toArray h Q:=HC.body Tryd.func34 X34_body ((X34_eq t0 t1 h Q).mp H)
noncomputable def code40:Code:=match Tryd.f40.body with | some c=>c | none=>.skip
noncomputable def res40:List ResultVar:=Tryd.f40.results.toList
def L40:Nat→Option (List Nat):=fun r=>if r=4 then some [3] else none
noncomputable def J40_4 (t3:Value) (h:AH) (Q:RQ):Prop:=wpC Tryd.prog L40 (cAt code40 [.r,.r,.r]) (mkA 24 [(3,t3)]) h (ctxAt Tryd.prog L40 code40 [.r,.r,.r] (retK Tryd.prog res40 Q))
noncomputable def K40_4 (t3:Value) (h:AH) (Q:RQ):Prop:=(ctxAt Tryd.prog L40 code40 [.r,.r,.l] (retK Tryd.prog res40 Q)) .normal (mkA 24 [(3,t3)]) h
theorem K40_4_eq (t3:Value) (h:AH) (Q:RQ):J40_4 t3 h Q=K40_4 t3 h Q:=join_eq (p:=[.r,.r]) (code:=code40) (by kernel_rfl) (by kernel_rfl)
noncomputable def X40_4 (t3:Value) (h:AH) (Q:RQ):Prop :=
 bq (fa 2 1 t3) fun t22 =>
 bq (ld1 h t22) fun t23 =>
 let t2:Value:=t23
 Q (.ret t2) h
theorem X40_4_eq (t3:Value) (h:AH) (Q:RQ):X40_4 t3 h Q=wpC Tryd.prog L40 (cAt code40 [.r,.r,.r]) (mkA 24 [(3,t3)]) h (ctxAt Tryd.prog L40 code40 [.r,.r,.r] (retK Tryd.prog res40 Q)):=by kernel_rfl
theorem X40_4_ok {t3:Value} {h:AH} {Q:RQ} (H:X40_4 t3 h Q):K40_4 t3 h Q:=(K40_4_eq t3 h Q).mp (((X40_4_eq t3 h Q).mp H))
noncomputable def X40 (t0:Value) (h:AH) (Q:RQ):Prop :=
 let t2:Value:=(Value.string (ByteArray.mk #[]))
 let t4:Value:=t0
 HC Tryd.prog 32 (([]:List Value)++[t4]++([]:List Value)).toArray h (resK (fun t5 h =>
 (fun t3 h =>
 bq (stN 3 h t3 t5) fun h=>(fun _ h =>
 let t6:Value:=t0
 bq (nilV Tryd.prog t6) fun t7 =>
 bq (fa 6 1 t7) fun t8 =>
 bq (ld1 h t8) fun t9 =>
 bq (binV Tryd.prog .eql 3 (.tmp 9) (.const (Value.int .i64 0)) t9 (Value.int .i64 0) h) fun t10 =>
 let t11:Value:=t10
 guardQ t11 true h (fun k=>k t0 h) fun t12 h =>
 guardQ t11 true h (fun k=>bq (fa 2 1 t3) fun v=>k v h) fun t13 h =>
 guardQ t11 true h (fun k=>bq (ld1 h t13) fun v=>k v h) fun t14 h =>
 guardQ t11 true h (fun k=>HC Tryd.prog 34 (([]:List Value)++[t12,t14]++([]:List Value)).toArray h (resK k (fun v h=>Q (.pan v) h))) fun t15 h =>
 guardQ t11 true h (fun k=>bq (binV Tryd.prog .neq 5 (.tmp 15) (.const (Value.int .u8 0)) t15 (Value.int .u8 0) h) fun v=>k v h) fun t16 h =>
 bq (pickV t11 t16 (Value.bool false)) fun t17 =>
 condP (some t17)
 (let t18:Value:=t0
 bq (fa 1 1 t3) fun t19 =>
 bq (ld1 h t19) fun t20 =>
 HC Tryd.prog 19 (([]:List Value)++[t18,(Value.int .i64 162),t20]++([]:List Value)).toArray h (resK (fun t21 h =>
 K40_4 t3 h Q) (fun v h=>Q (.pan v) h)))
 (K40_4 t3 h Q)) undef h) (opNew h 72 #[(Value.int .i64 0),(Value.int .i64 0),(Value.string (ByteArray.mk #[]))]).1 (opNew h 72 #[(Value.int .i64 0),(Value.int .i64 0),(Value.string (ByteArray.mk #[]))]).2) (fun v h=>Q (.pan v) h))
theorem X40_eq (t0:Value) (h:AH) (Q:RQ):X40 t0 h Q=wpC Tryd.prog L40 code40 (argA [t0] Tryd.f40.ntmps) h (retK Tryd.prog res40 Q):=by kernel_rfl
theorem X40_body:Tryd.f40.body=some code40:=by kernel_rfl
theorem X40_ok {t0:Value} {h:AH} {Q:RQ} (H:X40 t0 h Q):HC Tryd.prog 40 [t0].toArray h Q:=HC.body Tryd.func40 X40_body ((X40_eq t0 h Q).mp H)
noncomputable def code41:Code:=match Tryd.f41.body with | some c=>c | none=>.skip
noncomputable def res41:List ResultVar:=Tryd.f41.results.toList
def L41:Nat→Option (List Nat):=fun r=>if r=3 then some [0,3,4] else none
noncomputable def H41_3 (t0 t3 t4:Value) (h:AH) (Q:RQ):Prop:=HL Tryd.prog (cAt code41 [.r,.r,.l,.r,.i,.i]) (mkA 18 [(0,t0),(3,t3),(4,t4)]) h (ctxAt Tryd.prog L41 code41 [.r,.r,.l,.r,.i] (retK Tryd.prog res41 Q))
noncomputable def X41_3 (t0 t3 t4:Value) (h:AH) (Q:RQ):Prop :=
 let t6:Value:=t4
 let t7:Value:=t3
 bq (lenL t7) fun t8 =>
 bq (binV Tryd.prog .lss 3 (.tmp 6) (.tmp 8) t6 t8 h) fun t9 =>
 condP (some t9)
 (let t12:Value:=t3
 let t13:Value:=t4
 bq (ia 1 t12 t13) fun t14 =>
 bq (ld1 h t14) fun t15 =>
 let t16:Value:=t0
 bq (binV Tryd.prog .eql 9 (.tmp 15) (.tmp 16) t15 t16 h) fun t17 =>
 condP (some t17)
 (let t2:Value:=(Value.bool true)
 Q (.ret t2) h)
 (let t10:Value:=t4
 bq (binV Tryd.prog .add 3 (.tmp 10) (.const (Value.int .i64 1)) t10 (Value.int .i64 1) h) fun t11 =>
 let t4:Value:=t11
 H41_3 t0 t3 t4 h Q))
 (let t2:Value:=(Value.bool false)
 Q (.ret t2) h)
theorem X41_3_eq (t0 t3 t4:Value) (h:AH) (Q:RQ):X41_3 t0 t3 t4 h Q=wpC Tryd.prog L41 (cAt code41 [.r,.r,.l,.r,.i,.i]) (mkA 18 [(0,t0),(3,t3),(4,t4)]) h (ctxAt Tryd.prog L41 code41 [.r,.r,.l,.r,.i,.i] (retK Tryd.prog res41 Q)):=by kernel_rfl
theorem X41_3_ok {t0 t3 t4:Value} {h:AH} {Q:RQ} (H:X41_3 t0 t3 t4 h Q):H41_3 t0 t3 t4 h Q:=HL.step (L:=L41) ((X41_3_eq t0 t3 t4 h Q).mp H)
noncomputable def X41 (t0:Value) (h:AH) (Q:RQ):Prop :=
 let t2:Value:=(Value.bool false)
 bq (bs 9 #[(Value.string (ByteArray.mk #[])),(Value.string (ByteArray.mk #[])),(Value.string (ByteArray.mk #[])),(Value.string (ByteArray.mk #[])),(Value.string (ByteArray.mk #[])),(Value.string (ByteArray.mk #[])),(Value.string (ByteArray.mk #[])),(Value.string (ByteArray.mk #[])),(Value.string (ByteArray.mk #[])),(Value.string (ByteArray.mk #[])),(Value.string (ByteArray.mk #[])),(Value.string (ByteArray.mk #[]))] 12 h [(0,1,(Value.string (ByteArray.mk #[109,97,112]))),(1,1,(Value.string (ByteArray.mk #[99,111,109,98,105,110,101]))),(2,1,(Value.string (ByteArray.mk #[114,101,100,117,99,101]))),(3,1,(Value.string (ByteArray.mk #[112,97,114,116]))),(4,1,(Value.string (ByteArray.mk #[101,109,105,116]))),(5,1,(Value.string (ByteArray.mk #[108,101,116]))),(6,1,(Value.string (ByteArray.mk #[105,102]))),(7,1,(Value.string (ByteArray.mk #[101,108,115,101]))),(8,1,(Value.string (ByteArray.mk #[101,97,99,104]))),(9,1,(Value.string (ByteArray.mk #[105,110]))),(10,1,(Value.string (ByteArray.mk #[98,121]))),(11,1,(Value.string (ByteArray.mk #[102,111,114])))]) fun r=>(fun t5 h =>
 let t3:Value:=t5
 let t4:Value:=(Value.int .i64 0)
 H41_3 t0 t3 t4 h Q) r.1 r.2
theorem X41_eq (t0:Value) (h:AH) (Q:RQ):X41 t0 h Q=wpC Tryd.prog L41 code41 (argA [t0] Tryd.f41.ntmps) h (retK Tryd.prog res41 Q):=by kernel_rfl
theorem X41_body:Tryd.f41.body=some code41:=by kernel_rfl
theorem X41_ok {t0:Value} {h:AH} {Q:RQ} (H:X41 t0 h Q):HC Tryd.prog 41 [t0].toArray h Q:=HC.body Tryd.func41 X41_body ((X41_eq t0 h Q).mp H)
noncomputable def code42:Code:=match Tryd.f42.body with | some c=>c | none=>.skip
noncomputable def res42:List ResultVar:=Tryd.f42.results.toList
def L42:Nat→Option (List Nat):=fun r=>if r=9 then some [4,5] else if r=12 then some [4,13] else if r=21 then some [4,22] else if r=24 then some [4,25] else if r=31 then some [4,30] else if r=34 then some [4,35] else none
noncomputable def J42_9 (t4 t5:Value) (h:AH) (Q:RQ):Prop:=wpC Tryd.prog L42 (cAt code42 [.r,.l,.r,.i,.r]) (mkA 40 [(4,t4),(5,t5)]) h (ctxAt Tryd.prog L42 code42 [.r,.l,.r,.i,.r] (retK Tryd.prog res42 Q))
noncomputable def K42_9 (t4 t5:Value) (h:AH) (Q:RQ):Prop:=(ctxAt Tryd.prog L42 code42 [.r,.l,.r,.i,.l] (retK Tryd.prog res42 Q)) .normal (mkA 40 [(4,t4),(5,t5)]) h
theorem K42_9_eq (t4 t5:Value) (h:AH) (Q:RQ):J42_9 t4 t5 h Q=K42_9 t4 t5 h Q:=join_eq (p:=[.r,.l,.r,.i]) (code:=code42) (by kernel_rfl) (by kernel_rfl)
noncomputable def J42_12 (t4 t13:Value) (h:AH) (Q:RQ):Prop:=wpC Tryd.prog L42 (cAt code42 [.r,.l,.r,.i,.r,.r,.r]) (mkA 40 [(4,t4),(13,t13)]) h (ctxAt Tryd.prog L42 code42 [.r,.l,.r,.i,.r,.r,.r] (retK Tryd.prog res42 Q))
noncomputable def K42_12 (t4 t13:Value) (h:AH) (Q:RQ):Prop:=(ctxAt Tryd.prog L42 code42 [.r,.l,.r,.i,.r,.r,.l] (retK Tryd.prog res42 Q)) .normal (mkA 40 [(4,t4),(13,t13)]) h
theorem K42_12_eq (t4 t13:Value) (h:AH) (Q:RQ):J42_12 t4 t13 h Q=K42_12 t4 t13 h Q:=join_eq (p:=[.r,.l,.r,.i,.r,.r]) (code:=code42) (by kernel_rfl) (by kernel_rfl)
noncomputable def J42_21 (t4 t22:Value) (h:AH) (Q:RQ):Prop:=wpC Tryd.prog L42 (cAt code42 [.r,.l,.r,.i,.r,.r,.r,.r,.r,.r,.r,.r,.r,.r,.r]) (mkA 40 [(4,t4),(22,t22)]) h (ctxAt Tryd.prog L42 code42 [.r,.l,.r,.i,.r,.r,.r,.r,.r,.r,.r,.r,.r,.r,.r] (retK Tryd.prog res42 Q))
noncomputable def K42_21 (t4 t22:Value) (h:AH) (Q:RQ):Prop:=(ctxAt Tryd.prog L42 code42 [.r,.l,.r,.i,.r,.r,.r,.r,.r,.r,.r,.r,.r,.r,.l] (retK Tryd.prog res42 Q)) .normal (mkA 40 [(4,t4),(22,t22)]) h
theorem K42_21_eq (t4 t22:Value) (h:AH) (Q:RQ):J42_21 t4 t22 h Q=K42_21 t4 t22 h Q:=join_eq (p:=[.r,.l,.r,.i,.r,.r,.r,.r,.r,.r,.r,.r,.r,.r]) (code:=code42) (by kernel_rfl) (by kernel_rfl)
noncomputable def J42_24 (t4 t25:Value) (h:AH) (Q:RQ):Prop:=wpC Tryd.prog L42 (cAt code42 (.r::Dir.l::.r::Dir.i::.r::.r::.r::.r::.r::.r::.r::.r::.r::.r::.r::.r::.r::[])) (mkA 40 [(4,t4),(25,t25)]) h (ctxAt Tryd.prog L42 code42 (.r::Dir.l::.r::Dir.i::.r::.r::.r::.r::.r::.r::.r::.r::.r::.r::.r::.r::.r::[]) (retK Tryd.prog res42 Q))
noncomputable def K42_24 (t4 t25:Value) (h:AH) (Q:RQ):Prop:=(ctxAt Tryd.prog L42 code42 (.r::Dir.l::.r::Dir.i::.r::.r::.r::.r::.r::.r::.r::.r::.r::.r::.r::.r::Dir.l::[]) (retK Tryd.prog res42 Q)) .normal (mkA 40 [(4,t4),(25,t25)]) h
theorem K42_24_eq (t4 t25:Value) (h:AH) (Q:RQ):J42_24 t4 t25 h Q=K42_24 t4 t25 h Q:=join_eq (p:=(.r::Dir.l::.r::Dir.i::.r::.r::.r::.r::.r::.r::.r::.r::.r::.r::.r::.r::[])) (code:=code42) (by kernel_rfl) (by kernel_rfl)
noncomputable def J42_31 (t4 t30:Value) (h:AH) (Q:RQ):Prop:=wpC Tryd.prog L42 (cAt code42 (.r::Dir.l::.r::Dir.i::.r::.r::.r::.r::.r::.r::.r::.r::.r::.r::.r::.r::.r::.r::.r::.r::.r::[])) (mkA 40 [(4,t4),(30,t30)]) h (ctxAt Tryd.prog L42 code42 (.r::Dir.l::.r::Dir.i::.r::.r::.r::.r::.r::.r::.r::.r::.r::.r::.r::.r::.r::.r::.r::.r::.r::[]) (retK Tryd.prog res42 Q))
noncomputable def K42_31 (t4 t30:Value) (h:AH) (Q:RQ):Prop:=(ctxAt Tryd.prog L42 code42 (.r::Dir.l::.r::Dir.i::.r::.r::.r::.r::.r::.r::.r::.r::.r::.r::.r::.r::.r::.r::.r::.r::Dir.l::[]) (retK Tryd.prog res42 Q)) .normal (mkA 40 [(4,t4),(30,t30)]) h
theorem K42_31_eq (t4 t30:Value) (h:AH) (Q:RQ):J42_31 t4 t30 h Q=K42_31 t4 t30 h Q:=join_eq (p:=(.r::Dir.l::.r::Dir.i::.r::.r::.r::.r::.r::.r::.r::.r::.r::.r::.r::.r::.r::.r::.r::.r::[])) (code:=code42) (by kernel_rfl) (by kernel_rfl)
noncomputable def J42_34 (t4 t35:Value) (h:AH) (Q:RQ):Prop:=wpC Tryd.prog L42 (cAt code42 (.r::Dir.l::.r::Dir.i::.r::.r::.r::.r::.r::.r::.r::.r::.r::.r::.r::.r::.r::.r::.r::.r::.r::.r::.r::[])) (mkA 40 [(4,t4),(35,t35)]) h (ctxAt Tryd.prog L42 code42 (.r::Dir.l::.r::Dir.i::.r::.r::.r::.r::.r::.r::.r::.r::.r::.r::.r::.r::.r::.r::.r::.r::.r::.r::.r::[]) (retK Tryd.prog res42 Q))
noncomputable def K42_34 (t4 t35:Value) (h:AH) (Q:RQ):Prop:=(ctxAt Tryd.prog L42 code42 (.r::Dir.l::.r::Dir.i::.r::.r::.r::.r::.r::.r::.r::.r::.r::.r::.r::.r::.r::.r::.r::.r::.r::.r::Dir.l::[]) (retK Tryd.prog res42 Q)) .normal (mkA 40 [(4,t4),(35,t35)]) h
theorem K42_34_eq (t4 t35:Value) (h:AH) (Q:RQ):J42_34 t4 t35 h Q=K42_34 t4 t35 h Q:=join_eq (p:=(.r::Dir.l::.r::Dir.i::.r::.r::.r::.r::.r::.r::.r::.r::.r::.r::.r::.r::.r::.r::.r::.r::.r::.r::[])) (code:=code42) (by kernel_rfl) (by kernel_rfl)
noncomputable def X42_34 (t4 t35:Value) (h:AH) (Q:RQ):Prop :=
 condP (some t35)
 (let t2:Value:=(Value.string (ByteArray.mk #[108]))
 let t3:Value:=(Value.int .u8 116)
 Q (.ret (.tuple [t2,t3].toArray)) h)
 (bq (binV Tryd.prog .eql 9 (.tmp 4) (.const (Value.string (ByteArray.mk #[106,111,105,110]))) t4 (Value.string (ByteArray.mk #[106,111,105,110])) h) fun t39 =>
 let t38:Value:=t39
 condP (some t38)
 (let t2:Value:=(Value.string (ByteArray.mk #[108,116]))
 let t3:Value:=(Value.int .u8 116)
 Q (.ret (.tuple [t2,t3].toArray)) h)
 (let t2:Value:=(Value.string (ByteArray.mk #[]))
 let t3:Value:=(Value.int .u8 0)
 Q (.ret (.tuple [t2,t3].toArray)) h))
theorem X42_34_eq (t4 t35:Value) (h:AH) (Q:RQ):X42_34 t4 t35 h Q=wpC Tryd.prog L42 (cAt code42 (.r::Dir.l::.r::Dir.i::.r::.r::.r::.r::.r::.r::.r::.r::.r::.r::.r::.r::.r::.r::.r::.r::.r::.r::.r::[])) (mkA 40 [(4,t4),(35,t35)]) h (ctxAt Tryd.prog L42 code42 (.r::Dir.l::.r::Dir.i::.r::.r::.r::.r::.r::.r::.r::.r::.r::.r::.r::.r::.r::.r::.r::.r::.r::.r::.r::[]) (retK Tryd.prog res42 Q)):=by kernel_rfl
theorem X42_34_ok {t4 t35:Value} {h:AH} {Q:RQ} (H:X42_34 t4 t35 h Q):K42_34 t4 t35 h Q:=(K42_34_eq t4 t35 h Q).mp (((X42_34_eq t4 t35 h Q).mp H))
noncomputable def X42_31 (t4 t30:Value) (h:AH) (Q:RQ):Prop :=
 condP (some t30)
 (let t2:Value:=(Value.string (ByteArray.mk #[108]))
 let t3:Value:=(Value.int .u8 110)
 Q (.ret (.tuple [t2,t3].toArray)) h)
 (bq (binV Tryd.prog .eql 9 (.tmp 4) (.const (Value.string (ByteArray.mk #[102,105,114,115,116]))) t4 (Value.string (ByteArray.mk #[102,105,114,115,116])) h) fun t36 =>
 let t35:Value:=t36
 condP (some t35)
 (K42_34 t4 t35 h Q)
 (bq (binV Tryd.prog .eql 9 (.tmp 4) (.const (Value.string (ByteArray.mk #[108,97,115,116]))) t4 (Value.string (ByteArray.mk #[108,97,115,116])) h) fun t37 =>
 let t35:Value:=t37
 K42_34 t4 t35 h Q))
theorem X42_31_eq (t4 t30:Value) (h:AH) (Q:RQ):X42_31 t4 t30 h Q=wpC Tryd.prog L42 (cAt code42 (.r::Dir.l::.r::Dir.i::.r::.r::.r::.r::.r::.r::.r::.r::.r::.r::.r::.r::.r::.r::.r::.r::.r::[])) (mkA 40 [(4,t4),(30,t30)]) h (ctxAt Tryd.prog L42 code42 (.r::Dir.l::.r::Dir.i::.r::.r::.r::.r::.r::.r::.r::.r::.r::.r::.r::.r::.r::.r::.r::.r::.r::[]) (retK Tryd.prog res42 Q)):=by kernel_rfl
theorem X42_31_ok {t4 t30:Value} {h:AH} {Q:RQ} (H:X42_31 t4 t30 h Q):K42_31 t4 t30 h Q:=(K42_31_eq t4 t30 h Q).mp (((X42_31_eq t4 t30 h Q).mp H))
noncomputable def X42_24 (t4 t25:Value) (h:AH) (Q:RQ):Prop :=
 condP (some t25)
 (let t2:Value:=(Value.string (ByteArray.mk #[116,116]))
 let t3:Value:=(Value.int .u8 110)
 Q (.ret (.tuple [t2,t3].toArray)) h)
 (bq (binV Tryd.prog .eql 9 (.tmp 4) (.const (Value.string (ByteArray.mk #[110,111,116]))) t4 (Value.string (ByteArray.mk #[110,111,116])) h) fun t29 =>
 let t28:Value:=t29
 condP (some t28)
 (let t2:Value:=(Value.string (ByteArray.mk #[110]))
 let t3:Value:=(Value.int .u8 110)
 Q (.ret (.tuple [t2,t3].toArray)) h)
 (bq (binV Tryd.prog .eql 9 (.tmp 4) (.const (Value.string (ByteArray.mk #[115,117,109]))) t4 (Value.string (ByteArray.mk #[115,117,109])) h) fun t31 =>
 let t30:Value:=t31
 condP (some t30)
 (K42_31 t4 t30 h Q)
 (bq (binV Tryd.prog .eql 9 (.tmp 4) (.const (Value.string (ByteArray.mk #[99,111,117,110,116]))) t4 (Value.string (ByteArray.mk #[99,111,117,110,116])) h) fun t32 =>
 let t30:Value:=t32
 condP (some t30)
 (K42_31 t4 t30 h Q)
 (bq (binV Tryd.prog .eql 9 (.tmp 4) (.const (Value.string (ByteArray.mk #[109,97,120]))) t4 (Value.string (ByteArray.mk #[109,97,120])) h) fun t33 =>
 let t30:Value:=t33
 condP (some t30)
 (K42_31 t4 t30 h Q)
 (bq (binV Tryd.prog .eql 9 (.tmp 4) (.const (Value.string (ByteArray.mk #[109,105,110]))) t4 (Value.string (ByteArray.mk #[109,105,110])) h) fun t34 =>
 let t30:Value:=t34
 K42_31 t4 t30 h Q)))))
theorem X42_24_eq (t4 t25:Value) (h:AH) (Q:RQ):X42_24 t4 t25 h Q=wpC Tryd.prog L42 (cAt code42 (.r::Dir.l::.r::Dir.i::.r::.r::.r::.r::.r::.r::.r::.r::.r::.r::.r::.r::.r::[])) (mkA 40 [(4,t4),(25,t25)]) h (ctxAt Tryd.prog L42 code42 (.r::Dir.l::.r::Dir.i::.r::.r::.r::.r::.r::.r::.r::.r::.r::.r::.r::.r::.r::[]) (retK Tryd.prog res42 Q)):=by kernel_rfl
theorem X42_24_ok {t4 t25:Value} {h:AH} {Q:RQ} (H:X42_24 t4 t25 h Q):K42_24 t4 t25 h Q:=(K42_24_eq t4 t25 h Q).mp (((X42_24_eq t4 t25 h Q).mp H))
noncomputable def X42_21 (t4 t22:Value) (h:AH) (Q:RQ):Prop :=
 condP (some t22)
 (let t2:Value:=(Value.string (ByteArray.mk #[116]))
 let t3:Value:=(Value.int .u8 116)
 Q (.ret (.tuple [t2,t3].toArray)) h)
 (bq (binV Tryd.prog .eql 9 (.tmp 4) (.const (Value.string (ByteArray.mk #[101,113]))) t4 (Value.string (ByteArray.mk #[101,113])) h) fun t26 =>
 let t25:Value:=t26
 condP (some t25)
 (K42_24 t4 t25 h Q)
 (bq (binV Tryd.prog .eql 9 (.tmp 4) (.const (Value.string (ByteArray.mk #[108,101,115,115]))) t4 (Value.string (ByteArray.mk #[108,101,115,115])) h) fun t27 =>
 let t25:Value:=t27
 K42_24 t4 t25 h Q))
theorem X42_21_eq (t4 t22:Value) (h:AH) (Q:RQ):X42_21 t4 t22 h Q=wpC Tryd.prog L42 (cAt code42 [.r,.l,.r,.i,.r,.r,.r,.r,.r,.r,.r,.r,.r,.r,.r]) (mkA 40 [(4,t4),(22,t22)]) h (ctxAt Tryd.prog L42 code42 [.r,.l,.r,.i,.r,.r,.r,.r,.r,.r,.r,.r,.r,.r,.r] (retK Tryd.prog res42 Q)):=by kernel_rfl
theorem X42_21_ok {t4 t22:Value} {h:AH} {Q:RQ} (H:X42_21 t4 t22 h Q):K42_21 t4 t22 h Q:=(K42_21_eq t4 t22 h Q).mp (((X42_21_eq t4 t22 h Q).mp H))
noncomputable def X42_12 (t4 t13:Value) (h:AH) (Q:RQ):Prop :=
 condP (some t13)
 (let t2:Value:=(Value.string (ByteArray.mk #[116]))
 let t3:Value:=(Value.int .u8 110)
 Q (.ret (.tuple [t2,t3].toArray)) h)
 (bq (binV Tryd.prog .eql 9 (.tmp 4) (.const (Value.string (ByteArray.mk #[116,101,120,116]))) t4 (Value.string (ByteArray.mk #[116,101,120,116])) h) fun t17 =>
 let t16:Value:=t17
 condP (some t16)
 (let t2:Value:=(Value.string (ByteArray.mk #[110]))
 let t3:Value:=(Value.int .u8 116)
 Q (.ret (.tuple [t2,t3].toArray)) h)
 (bq (binV Tryd.prog .eql 9 (.tmp 4) (.const (Value.string (ByteArray.mk #[99,97,116]))) t4 (Value.string (ByteArray.mk #[99,97,116])) h) fun t19 =>
 let t18:Value:=t19
 condP (some t18)
 (let t2:Value:=(Value.string (ByteArray.mk #[116,116]))
 let t3:Value:=(Value.int .u8 116)
 Q (.ret (.tuple [t2,t3].toArray)) h)
 (bq (binV Tryd.prog .eql 9 (.tmp 4) (.const (Value.string (ByteArray.mk #[99,117,116]))) t4 (Value.string (ByteArray.mk #[99,117,116])) h) fun t21 =>
 let t20:Value:=t21
 condP (some t20)
 (let t2:Value:=(Value.string (ByteArray.mk #[116,110,110]))
 let t3:Value:=(Value.int .u8 116)
 Q (.ret (.tuple [t2,t3].toArray)) h)
 (bq (binV Tryd.prog .eql 9 (.tmp 4) (.const (Value.string (ByteArray.mk #[117,112,112,101,114]))) t4 (Value.string (ByteArray.mk #[117,112,112,101,114])) h) fun t23 =>
 let t22:Value:=t23
 condP (some t22)
 (K42_21 t4 t22 h Q)
 (bq (binV Tryd.prog .eql 9 (.tmp 4) (.const (Value.string (ByteArray.mk #[108,111,119,101,114]))) t4 (Value.string (ByteArray.mk #[108,111,119,101,114])) h) fun t24 =>
 let t22:Value:=t24
 K42_21 t4 t22 h Q)))))
theorem X42_12_eq (t4 t13:Value) (h:AH) (Q:RQ):X42_12 t4 t13 h Q=wpC Tryd.prog L42 (cAt code42 [.r,.l,.r,.i,.r,.r,.r]) (mkA 40 [(4,t4),(13,t13)]) h (ctxAt Tryd.prog L42 code42 [.r,.l,.r,.i,.r,.r,.r] (retK Tryd.prog res42 Q)):=by kernel_rfl
theorem X42_12_ok {t4 t13:Value} {h:AH} {Q:RQ} (H:X42_12 t4 t13 h Q):K42_12 t4 t13 h Q:=(K42_12_eq t4 t13 h Q).mp (((X42_12_eq t4 t13 h Q).mp H))
noncomputable def X42_9 (t4 t5:Value) (h:AH) (Q:RQ):Prop :=
 condP (some t5)
 (let t2:Value:=(Value.string (ByteArray.mk #[110,110]))
 let t3:Value:=(Value.int .u8 110)
 Q (.ret (.tuple [t2,t3].toArray)) h)
 (bq (binV Tryd.prog .eql 9 (.tmp 4) (.const (Value.string (ByteArray.mk #[108,101,110]))) t4 (Value.string (ByteArray.mk #[108,101,110])) h) fun t14 =>
 let t13:Value:=t14
 condP (some t13)
 (K42_12 t4 t13 h Q)
 (bq (binV Tryd.prog .eql 9 (.tmp 4) (.const (Value.string (ByteArray.mk #[110,117,109]))) t4 (Value.string (ByteArray.mk #[110,117,109])) h) fun t15 =>
 let t13:Value:=t15
 K42_12 t4 t13 h Q))
theorem X42_9_eq (t4 t5:Value) (h:AH) (Q:RQ):X42_9 t4 t5 h Q=wpC Tryd.prog L42 (cAt code42 [.r,.l,.r,.i,.r]) (mkA 40 [(4,t4),(5,t5)]) h (ctxAt Tryd.prog L42 code42 [.r,.l,.r,.i,.r] (retK Tryd.prog res42 Q)):=by kernel_rfl
theorem X42_9_ok {t4 t5:Value} {h:AH} {Q:RQ} (H:X42_9 t4 t5 h Q):K42_9 t4 t5 h Q:=(K42_9_eq t4 t5 h Q).mp (((X42_9_eq t4 t5 h Q).mp H))
noncomputable def X42 (t0:Value) (h:AH) (Q:RQ):Prop :=
 let t2:Value:=(Value.string (ByteArray.mk #[]))
 let t3:Value:=(Value.int .u8 0)
 let t4:Value:=t0
 bq (binV Tryd.prog .eql 9 (.tmp 4) (.const (Value.string (ByteArray.mk #[97,100,100]))) t4 (Value.string (ByteArray.mk #[97,100,100])) h) fun t6 =>
 let t5:Value:=t6
 condP (some t5)
 (K42_9 t4 t5 h Q)
 (bq (binV Tryd.prog .eql 9 (.tmp 4) (.const (Value.string (ByteArray.mk #[115,117,98]))) t4 (Value.string (ByteArray.mk #[115,117,98])) h) fun t7 =>
 let t5:Value:=t7
 condP (some t5)
 (K42_9 t4 t5 h Q)
 (bq (binV Tryd.prog .eql 9 (.tmp 4) (.const (Value.string (ByteArray.mk #[109,117,108]))) t4 (Value.string (ByteArray.mk #[109,117,108])) h) fun t8 =>
 let t5:Value:=t8
 condP (some t5)
 (K42_9 t4 t5 h Q)
 (bq (binV Tryd.prog .eql 9 (.tmp 4) (.const (Value.string (ByteArray.mk #[100,105,118]))) t4 (Value.string (ByteArray.mk #[100,105,118])) h) fun t9 =>
 let t5:Value:=t9
 condP (some t5)
 (K42_9 t4 t5 h Q)
 (bq (binV Tryd.prog .eql 9 (.tmp 4) (.const (Value.string (ByteArray.mk #[108,116]))) t4 (Value.string (ByteArray.mk #[108,116])) h) fun t10 =>
 let t5:Value:=t10
 condP (some t5)
 (K42_9 t4 t5 h Q)
 (bq (binV Tryd.prog .eql 9 (.tmp 4) (.const (Value.string (ByteArray.mk #[97,110,100]))) t4 (Value.string (ByteArray.mk #[97,110,100])) h) fun t11 =>
 let t5:Value:=t11
 condP (some t5)
 (K42_9 t4 t5 h Q)
 (bq (binV Tryd.prog .eql 9 (.tmp 4) (.const (Value.string (ByteArray.mk #[111,114]))) t4 (Value.string (ByteArray.mk #[111,114])) h) fun t12 =>
 let t5:Value:=t12
 K42_9 t4 t5 h Q))))))
theorem X42_eq (t0:Value) (h:AH) (Q:RQ):X42 t0 h Q=wpC Tryd.prog L42 code42 (argA [t0] Tryd.f42.ntmps) h (retK Tryd.prog res42 Q):=by kernel_rfl
theorem X42_body:Tryd.f42.body=some code42:=by kernel_rfl
theorem X42_ok {t0:Value} {h:AH} {Q:RQ} (H:X42 t0 h Q):HC Tryd.prog 42 [t0].toArray h Q:=HC.body Tryd.func42 X42_body ((X42_eq t0 h Q).mp H)
end Go.Proofs.YtnaenhkldanjbaaDoor.X
end
