import Derived.KernelRfl
import Derived.Test.YtnaenhkldanjbaaDoorProg
import Derived.Test.YtnaenhkldanjbaaDoorZ14
import Derived.Test.YtnaenhkldanjbaaDoorZ19
import Derived.Test.YtnaenhkldanjbaaDoorZ28
import Derived.Test.YtnaenhkldanjbaaDoorZ30
set_option linter.unusedVariables false
set_option linter.unusedSimpArgs false
section
namespace Go.Proofs.YtnaenhkldanjbaaDoor.X
open Go.Ab
set_option maxRecDepth 100000
noncomputable def code31:Code:=match Tryd.f31.body with | some c=>c | none=>.skip
noncomputable def res31:List ResultVar:=Tryd.f31.results.toList
def L31:Nat→Option (List Nat):=fun r=>if r=6 then some [0,2,3,4,5] else if r=31 then some [0,2,3,4,5,94] else if r=39 then some [0,2,4] else if r=40 then some [2,4] else none
noncomputable def J31_6 (t0 t2 t3 t4 t5:Value) (h:AH) (Q:RQ):Prop:=wpC Tryd.prog L31 (cAt code31 [.r,.r,.r,.r,.r]) (mkA 134 [(0,t0),(2,t2),(3,t3),(4,t4),(5,t5)]) h (ctxAt Tryd.prog L31 code31 [.r,.r,.r,.r,.r] (retK Tryd.prog res31 Q))
noncomputable def K31_6 (t0 t2 t3 t4 t5:Value) (h:AH) (Q:RQ):Prop:=(ctxAt Tryd.prog L31 code31 [.r,.r,.r,.r,.l] (retK Tryd.prog res31 Q)) .normal (mkA 134 [(0,t0),(2,t2),(3,t3),(4,t4),(5,t5)]) h
theorem K31_6_eq (t0 t2 t3 t4 t5:Value) (h:AH) (Q:RQ):J31_6 t0 t2 t3 t4 t5 h Q=K31_6 t0 t2 t3 t4 t5 h Q:=join_eq (p:=[.r,.r,.r,.r]) (code:=code31) (by kernel_rfl) (by kernel_rfl)
noncomputable def J31_40 (t2 t4:Value) (h:AH) (Q:RQ):Prop:=wpC Tryd.prog L31 (cAt code31 [.r,.r,.r,.r,.r,.r]) (mkA 134 [(2,t2),(4,t4)]) h (ctxAt Tryd.prog L31 code31 [.r,.r,.r,.r,.r,.r] (retK Tryd.prog res31 Q))
noncomputable def K31_40 (t2 t4:Value) (h:AH) (Q:RQ):Prop:=(ctxAt Tryd.prog L31 code31 [.r,.r,.r,.r,.r,.l] (retK Tryd.prog res31 Q)) .normal (mkA 134 [(2,t2),(4,t4)]) h
theorem K31_40_eq (t2 t4:Value) (h:AH) (Q:RQ):J31_40 t2 t4 h Q=K31_40 t2 t4 h Q:=join_eq (p:=[.r,.r,.r,.r,.r]) (code:=code31) (by kernel_rfl) (by kernel_rfl)
noncomputable def J31_31 (t0 t2 t3 t4 t5 t94:Value) (h:AH) (Q:RQ):Prop:=wpC Tryd.prog L31 (cAt code31 [.r,.r,.r,.r,.r,.l,.r,.i,.r,.r,.r,.r,.r,.r,.r]) (mkA 134 [(0,t0),(2,t2),(3,t3),(4,t4),(5,t5),(94,t94)]) h (ctxAt Tryd.prog L31 code31 [.r,.r,.r,.r,.r,.l,.r,.i,.r,.r,.r,.r,.r,.r,.r] (retK Tryd.prog res31 Q))
noncomputable def K31_31 (t0 t2 t3 t4 t5 t94:Value) (h:AH) (Q:RQ):Prop:=(ctxAt Tryd.prog L31 code31 [.r,.r,.r,.r,.r,.l,.r,.i,.r,.r,.r,.r,.r,.r,.l] (retK Tryd.prog res31 Q)) .normal (mkA 134 [(0,t0),(2,t2),(3,t3),(4,t4),(5,t5),(94,t94)]) h
theorem K31_31_eq (t0 t2 t3 t4 t5 t94:Value) (h:AH) (Q:RQ):J31_31 t0 t2 t3 t4 t5 t94 h Q=K31_31 t0 t2 t3 t4 t5 t94 h Q:=join_eq (p:=[.r,.r,.r,.r,.r,.l,.r,.i,.r,.r,.r,.r,.r,.r]) (code:=code31) (by kernel_rfl) (by kernel_rfl)
noncomputable def J31_39 (t0 t2 t4:Value) (h:AH) (Q:RQ):Prop:=wpC Tryd.prog L31 (cAt code31 (.r::.r::.r::.r::.r::Dir.l::.r::Dir.i::.r::.r::.r::.r::.r::.r::.r::Dir.l::.r::.r::.r::.r::[])) (mkA 134 [(0,t0),(2,t2),(4,t4)]) h (ctxAt Tryd.prog L31 code31 (.r::.r::.r::.r::.r::Dir.l::.r::Dir.i::.r::.r::.r::.r::.r::.r::.r::Dir.l::.r::.r::.r::.r::[]) (retK Tryd.prog res31 Q))
noncomputable def K31_39 (t0 t2 t4:Value) (h:AH) (Q:RQ):Prop:=(ctxAt Tryd.prog L31 code31 (.r::.r::.r::.r::.r::Dir.l::.r::Dir.i::.r::.r::.r::.r::.r::.r::.r::Dir.l::.r::.r::.r::Dir.l::[]) (retK Tryd.prog res31 Q)) .normal (mkA 134 [(0,t0),(2,t2),(4,t4)]) h
theorem K31_39_eq (t0 t2 t4:Value) (h:AH) (Q:RQ):J31_39 t0 t2 t4 h Q=K31_39 t0 t2 t4 h Q:=join_eq (p:=(.r::.r::.r::.r::.r::Dir.l::.r::Dir.i::.r::.r::.r::.r::.r::.r::.r::Dir.l::.r::.r::.r::[])) (code:=code31) (by kernel_rfl) (by kernel_rfl)
noncomputable def X31_39 (t0 t2 t4:Value) (h:AH) (Q:RQ):Prop :=
 let t126:Value:=t0
 bq (fa 1 1 t4) fun t127 =>
 bq (ld1 h t127) fun t128 =>
 bq (bd #[(Value.string (ByteArray.mk #[])),(Value.int .u8 0)] [(0,1,t128),(1,1,(Value.int .u8 116))]) fun t129 =>
 bq (bs 65 #[(Value.string (ByteArray.mk #[])),(Value.int .u8 0)] 1 h [(0,2,t129)]) fun r=>(fun t130 h =>
 HC Tryd.prog 14 (([]:List Value)++[t126,(Value.int .i64 1),t130]++([]:List Value)).toArray h (resK (fun t131 h =>
 bq (fa 12 1 t4) fun t132 =>
 bq (stN 1 h t132 t131) fun h=>(fun _ h =>
 K31_40 t2 t4 h Q) undef h) (fun v h=>Q (.pan v) h))) r.1 r.2
theorem X31_39_eq (t0 t2 t4:Value) (h:AH) (Q:RQ):X31_39 t0 t2 t4 h Q=wpC Tryd.prog L31 (cAt code31 (.r::.r::.r::.r::.r::Dir.l::.r::Dir.i::.r::.r::.r::.r::.r::.r::.r::Dir.l::.r::.r::.r::.r::[])) (mkA 134 [(0,t0),(2,t2),(4,t4)]) h (ctxAt Tryd.prog L31 code31 (.r::.r::.r::.r::.r::Dir.l::.r::Dir.i::.r::.r::.r::.r::.r::.r::.r::Dir.l::.r::.r::.r::.r::[]) (retK Tryd.prog res31 Q)):=by kernel_rfl
theorem X31_39_ok {t0 t2 t4:Value} {h:AH} {Q:RQ} (H:X31_39 t0 t2 t4 h Q):K31_39 t0 t2 t4 h Q:=(K31_39_eq t0 t2 t4 h Q).mp (((X31_39_eq t0 t2 t4 h Q).mp H))
noncomputable def X31_31 (t0 t2 t3 t4 t5 t94:Value) (h:AH) (Q:RQ):Prop :=
 condP (some t94)
 (let t97:Value:=t0
 HC Tryd.prog 16 (([]:List Value)++[t97]++([]:List Value)).toArray h (resK (fun t98 h =>
 let t99:Value:=t0
 HC Tryd.prog 40 (([]:List Value)++[t99]++([]:List Value)).toArray h (resK (fun t100 h =>
 bq (fa 1 1 t4) fun t101 =>
 bq (stN 1 h t101 t100) fun h=>(fun _ h =>
 let t102:Value:=t0
 HC Tryd.prog 13 (([]:List Value)++[t102,(Value.int .i64 1),(Value.string (ByteArray.mk #[105,110]))]++([]:List Value)).toArray h (resK (fun t103 h =>
 let t104:Value:=t5
 bq (binV Tryd.prog .eql 9 (.tmp 104) (.const (Value.string (ByteArray.mk #[102,111,114]))) t104 (Value.string (ByteArray.mk #[102,111,114])) h) fun t105 =>
 condP (some t105)
 (let t107:Value:=t0
 HC Tryd.prog 17 (([]:List Value)++[t107,(Value.int .u8 108)]++([]:List Value)).toArray h (resK (fun t108 h =>
 let t106:Value:=t108
 bq (opExtract t106 0) fun t109 =>
 bq (opExtract t106 1) fun t110 =>
 bq (fa 2 5 t4) fun t111 =>
 bq (stN 5 h t111 t109) fun h=>(fun _ h =>
 K31_39 t0 t2 t4 h Q) undef h) (fun v h=>Q (.pan v) h)))
 (let t113:Value:=t0
 HC Tryd.prog 17 (([]:List Value)++[t113,(Value.int .u8 116)]++([]:List Value)).toArray h (resK (fun t114 h =>
 let t112:Value:=t114
 bq (opExtract t112 0) fun t115 =>
 bq (opExtract t112 1) fun t116 =>
 bq (fa 2 5 t4) fun t117 =>
 bq (stN 5 h t117 t115) fun h=>(fun _ h =>
 let t118:Value:=t0
 HC Tryd.prog 13 (([]:List Value)++[t118,(Value.int .i64 1),(Value.string (ByteArray.mk #[98,121]))]++([]:List Value)).toArray h (resK (fun t119 h =>
 let t121:Value:=t0
 HC Tryd.prog 17 (([]:List Value)++[t121,(Value.int .u8 116)]++([]:List Value)).toArray h (resK (fun t122 h =>
 let t120:Value:=t122
 bq (opExtract t120 0) fun t123 =>
 bq (opExtract t120 1) fun t124 =>
 bq (fa 7 5 t4) fun t125 =>
 bq (stN 5 h t125 t123) fun h=>(fun _ h =>
 K31_39 t0 t2 t4 h Q) undef h) (fun v h=>Q (.pan v) h))) (fun v h=>Q (.pan v) h))) undef h) (fun v h=>Q (.pan v) h)))) (fun v h=>Q (.pan v) h))) undef h) (fun v h=>Q (.pan v) h))) (fun v h=>Q (.pan v) h)))
 (let t19:Value:=t0
 bq (fa 1 1 t3) fun t20 =>
 bq (ld1 h t20) fun t21 =>
 HC Tryd.prog 19 (([]:List Value)++[t19,(Value.int .i64 161),t21]++([]:List Value)).toArray h (resK (fun t22 h =>
 K31_40 t2 t4 h Q) (fun v h=>Q (.pan v) h)))
theorem X31_31_eq (t0 t2 t3 t4 t5 t94:Value) (h:AH) (Q:RQ):X31_31 t0 t2 t3 t4 t5 t94 h Q=wpC Tryd.prog L31 (cAt code31 [.r,.r,.r,.r,.r,.l,.r,.i,.r,.r,.r,.r,.r,.r,.r]) (mkA 134 [(0,t0),(2,t2),(3,t3),(4,t4),(5,t5),(94,t94)]) h (ctxAt Tryd.prog L31 code31 [.r,.r,.r,.r,.r,.l,.r,.i,.r,.r,.r,.r,.r,.r,.r] (retK Tryd.prog res31 Q)):=by kernel_rfl
theorem X31_31_ok {t0 t2 t3 t4 t5 t94:Value} {h:AH} {Q:RQ} (H:X31_31 t0 t2 t3 t4 t5 t94 h Q):K31_31 t0 t2 t3 t4 t5 t94 h Q:=(K31_31_eq t0 t2 t3 t4 t5 t94 h Q).mp (((X31_31_eq t0 t2 t3 t4 t5 t94 h Q).mp H))
noncomputable def X31_40 (t2 t4:Value) (h:AH) (Q:RQ):Prop :=
 bq (ldN 14 h t4) fun t133 =>
 bq (stN 14 h t2 t133) fun h=>(fun _ h =>
 bq (seqO [ldN 14 h t2]) fun vs=>Q (.ret (oneOf vs)) h) undef h
theorem X31_40_eq (t2 t4:Value) (h:AH) (Q:RQ):X31_40 t2 t4 h Q=wpC Tryd.prog L31 (cAt code31 [.r,.r,.r,.r,.r,.r]) (mkA 134 [(2,t2),(4,t4)]) h (ctxAt Tryd.prog L31 code31 [.r,.r,.r,.r,.r,.r] (retK Tryd.prog res31 Q)):=by kernel_rfl
theorem X31_40_ok {t2 t4:Value} {h:AH} {Q:RQ} (H:X31_40 t2 t4 h Q):K31_40 t2 t4 h Q:=(K31_40_eq t2 t4 h Q).mp (((X31_40_eq t2 t4 h Q).mp H))
noncomputable def X31_6 (t0 t2 t3 t4 t5:Value) (h:AH) (Q:RQ):Prop :=
 let t18:Value:=t5
 bq (binV Tryd.prog .eql 9 (.tmp 18) (.const (Value.string (ByteArray.mk #[101,109,105,116]))) t18 (Value.string (ByteArray.mk #[101,109,105,116])) h) fun t24 =>
 let t23:Value:=t24
 condP (some t23)
 (let t25:Value:=t0
 HC Tryd.prog 16 (([]:List Value)++[t25]++([]:List Value)).toArray h (resK (fun t26 h =>
 let t28:Value:=t0
 HC Tryd.prog 17 (([]:List Value)++[t28,(Value.int .u8 116)]++([]:List Value)).toArray h (resK (fun t29 h =>
 let t27:Value:=t29
 bq (opExtract t27 0) fun t30 =>
 bq (opExtract t27 1) fun t31 =>
 bq (fa 2 5 t4) fun t32 =>
 bq (stN 5 h t32 t30) fun h=>(fun _ h =>
 let t33:Value:=t0
 HC Tryd.prog 13 (([]:List Value)++[t33,(Value.int .i64 4),(Value.string (ByteArray.mk #[44]))]++([]:List Value)).toArray h (resK (fun t34 h =>
 let t36:Value:=t0
 HC Tryd.prog 17 (([]:List Value)++[t36,(Value.int .u8 116)]++([]:List Value)).toArray h (resK (fun t37 h =>
 let t35:Value:=t37
 bq (opExtract t35 0) fun t38 =>
 bq (opExtract t35 1) fun t39 =>
 bq (fa 7 5 t4) fun t40 =>
 bq (stN 5 h t40 t38) fun h=>(fun _ h =>
 let t41:Value:=t0
 HC Tryd.prog 13 (([]:List Value)++[t41,(Value.int .i64 4),(Value.string (ByteArray.mk #[59]))]++([]:List Value)).toArray h (resK (fun t42 h =>
 K31_40 t2 t4 h Q) (fun v h=>Q (.pan v) h))) undef h) (fun v h=>Q (.pan v) h))) (fun v h=>Q (.pan v) h))) undef h) (fun v h=>Q (.pan v) h))) (fun v h=>Q (.pan v) h)))
 (bq (binV Tryd.prog .eql 9 (.tmp 18) (.const (Value.string (ByteArray.mk #[108,101,116]))) t18 (Value.string (ByteArray.mk #[108,101,116])) h) fun t44 =>
 let t43:Value:=t44
 condP (some t43)
 (let t45:Value:=t0
 HC Tryd.prog 16 (([]:List Value)++[t45]++([]:List Value)).toArray h (resK (fun t46 h =>
 let t47:Value:=t0
 HC Tryd.prog 40 (([]:List Value)++[t47]++([]:List Value)).toArray h (resK (fun t48 h =>
 bq (fa 1 1 t4) fun t49 =>
 bq (stN 1 h t49 t48) fun h=>(fun _ h =>
 let t50:Value:=t0
 HC Tryd.prog 13 (([]:List Value)++[t50,(Value.int .i64 4),(Value.string (ByteArray.mk #[61]))]++([]:List Value)).toArray h (resK (fun t51 h =>
 let t53:Value:=t0
 HC Tryd.prog 17 (([]:List Value)++[t53,(Value.int .u8 0)]++([]:List Value)).toArray h (resK (fun t54 h =>
 let t52:Value:=t54
 bq (opExtract t52 0) fun t55 =>
 bq (opExtract t52 1) fun t56 =>
 (fun t6 h =>
 bq (stN 5 h t6 t55) fun h=>(fun _ h =>
 let t7:Value:=t56
 bq (ldN 5 h t6) fun t57 =>
 bq (fa 2 5 t4) fun t58 =>
 bq (stN 5 h t58 t57) fun h=>(fun _ h =>
 let t59:Value:=t0
 HC Tryd.prog 13 (([]:List Value)++[t59,(Value.int .i64 4),(Value.string (ByteArray.mk #[59]))]++([]:List Value)).toArray h (resK (fun t60 h =>
 let t61:Value:=t0
 let t62:Value:=t0
 bq (nilV Tryd.prog t62) fun t63 =>
 bq (fa 2 1 t63) fun t64 =>
 bq (ld1 h t64) fun t65 =>
 bq (fa 1 1 t4) fun t66 =>
 bq (ld1 h t66) fun t67 =>
 let t68:Value:=t7
 bq (bd #[(Value.string (ByteArray.mk #[])),(Value.int .u8 0)] [(0,1,t67),(1,1,t68)]) fun t69 =>
 bq (bs 65 #[(Value.string (ByteArray.mk #[])),(Value.int .u8 0)] 1 h [(0,2,t69)]) fun r=>(fun t70 h =>
 ((bq (ld1 h t64) fun u=>(u=t65))∧(True)) ∧
 bq (apT 65 2 24 (some (Value.agg #[(Value.string (ByteArray.mk #[])),(Value.int .u8 0)])) h t65 t70) fun r=>(fun t71 h =>
 (True) ∧
 bq (nilV Tryd.prog t61) fun t72 =>
 bq (fa 2 1 t72) fun t73 =>
 bq (stN 1 h t73 t71) fun h=>(fun q21_13 h =>
 (True) ∧
 K31_40 t2 t4 h Q) undef h) r.1 r.2) r.1 r.2) (fun v h=>Q (.pan v) h))) undef h) undef h) (opNew h 32 #[(Value.string (ByteArray.mk #[])),(Value.int .i64 0),(Value.int .i64 0),(Value.string (ByteArray.mk #[])),(Value.slice none 0 0)]).1 (opNew h 32 #[(Value.string (ByteArray.mk #[])),(Value.int .i64 0),(Value.int .i64 0),(Value.string (ByteArray.mk #[])),(Value.slice none 0 0)]).2) (fun v h=>Q (.pan v) h))) (fun v h=>Q (.pan v) h))) undef h) (fun v h=>Q (.pan v) h))) (fun v h=>Q (.pan v) h)))
 (bq (binV Tryd.prog .eql 9 (.tmp 18) (.const (Value.string (ByteArray.mk #[105,102]))) t18 (Value.string (ByteArray.mk #[105,102])) h) fun t75 =>
 let t74:Value:=t75
 condP (some t74)
 (let t76:Value:=t0
 HC Tryd.prog 16 (([]:List Value)++[t76]++([]:List Value)).toArray h (resK (fun t77 h =>
 let t79:Value:=t0
 HC Tryd.prog 17 (([]:List Value)++[t79,(Value.int .u8 110)]++([]:List Value)).toArray h (resK (fun t80 h =>
 let t78:Value:=t80
 bq (opExtract t78 0) fun t81 =>
 bq (opExtract t78 1) fun t82 =>
 bq (fa 2 5 t4) fun t83 =>
 bq (stN 5 h t83 t81) fun h=>(fun _ h =>
 let t84:Value:=t0
 HC Tryd.prog 14 (([]:List Value)++[t84,(Value.int .i64 0),(Value.slice none 0 0)]++([]:List Value)).toArray h (resK (fun t85 h =>
 bq (fa 12 1 t4) fun t86 =>
 bq (stN 1 h t86 t85) fun h=>(fun _ h =>
 let t87:Value:=t0
 HC Tryd.prog 15 (([]:List Value)++[t87,(Value.int .i64 1),(Value.string (ByteArray.mk #[101,108,115,101]))]++([]:List Value)).toArray h (resK (fun t88 h =>
 condP (some t88)
 (let t89:Value:=t0
 HC Tryd.prog 16 (([]:List Value)++[t89]++([]:List Value)).toArray h (resK (fun t90 h =>
 let t91:Value:=t0
 HC Tryd.prog 14 (([]:List Value)++[t91,(Value.int .i64 0),(Value.slice none 0 0)]++([]:List Value)).toArray h (resK (fun t92 h =>
 bq (fa 13 1 t4) fun t93 =>
 bq (stN 1 h t93 t92) fun h=>(fun _ h =>
 K31_40 t2 t4 h Q) undef h) (fun v h=>Q (.pan v) h))) (fun v h=>Q (.pan v) h)))
 (K31_40 t2 t4 h Q)) (fun v h=>Q (.pan v) h))) undef h) (fun v h=>Q (.pan v) h))) undef h) (fun v h=>Q (.pan v) h))) (fun v h=>Q (.pan v) h)))
 (bq (binV Tryd.prog .eql 9 (.tmp 18) (.const (Value.string (ByteArray.mk #[101,97,99,104]))) t18 (Value.string (ByteArray.mk #[101,97,99,104])) h) fun t95 =>
 let t94:Value:=t95
 condP (some t94)
 (K31_31 t0 t2 t3 t4 t5 t94 h Q)
 (bq (binV Tryd.prog .eql 9 (.tmp 18) (.const (Value.string (ByteArray.mk #[102,111,114]))) t18 (Value.string (ByteArray.mk #[102,111,114])) h) fun t96 =>
 let t94:Value:=t96
 K31_31 t0 t2 t3 t4 t5 t94 h Q))))
theorem X31_6_eq (t0 t2 t3 t4 t5:Value) (h:AH) (Q:RQ):X31_6 t0 t2 t3 t4 t5 h Q=wpC Tryd.prog L31 (cAt code31 [.r,.r,.r,.r,.r]) (mkA 134 [(0,t0),(2,t2),(3,t3),(4,t4),(5,t5)]) h (ctxAt Tryd.prog L31 code31 [.r,.r,.r,.r,.r] (retK Tryd.prog res31 Q)):=by kernel_rfl
theorem X31_6_ok {t0 t2 t3 t4 t5:Value} {h:AH} {Q:RQ} (H:X31_6 t0 t2 t3 t4 t5 h Q):K31_6 t0 t2 t3 t4 t5 h Q:=(K31_6_eq t0 t2 t3 t4 t5 h Q).mp (((X31_6_eq t0 t2 t3 t4 t5 h Q).mp H))
noncomputable def X31 (t0:Value) (h:AH) (Q:RQ):Prop :=
 (fun t2 h =>
 let t8:Value:=t0
 HC Tryd.prog 18 (([]:List Value)++[t8]++([]:List Value)).toArray h (resK (fun t9 h =>
 (fun t3 h =>
 bq (stN 3 h t3 t9) fun h=>(fun _ h =>
 bq (fa 2 1 t3) fun t10 =>
 bq (ld1 h t10) fun t11 =>
 bq (bd #[(Value.string (ByteArray.mk #[])),(Value.string (ByteArray.mk #[])),(Value.string (ByteArray.mk #[])),(Value.int .i64 0),(Value.int .i64 0),(Value.string (ByteArray.mk #[])),(Value.slice none 0 0),(Value.string (ByteArray.mk #[])),(Value.int .i64 0),(Value.int .i64 0),(Value.string (ByteArray.mk #[])),(Value.slice none 0 0),(Value.slice none 0 0),(Value.slice none 0 0)] [(0,1,t11)]) fun t12 =>
 (fun t4 h =>
 bq (stN 14 h t4 t12) fun h=>(fun _ h =>
 let t5:Value:=(Value.string (ByteArray.mk #[]))
 bq (fa 0 1 t3) fun t13 =>
 bq (ld1 h t13) fun t14 =>
 bq (binV Tryd.prog .eql 3 (.tmp 14) (.const (Value.int .i64 1)) t14 (Value.int .i64 1) h) fun t15 =>
 condP (some t15)
 (bq (fa 2 1 t3) fun t16 =>
 bq (ld1 h t16) fun t17 =>
 let t5:Value:=t17
 K31_6 t0 t2 t3 t4 t5 h Q)
 (K31_6 t0 t2 t3 t4 t5 h Q)) undef h) (opNew h 78 #[(Value.string (ByteArray.mk #[])),(Value.string (ByteArray.mk #[])),(Value.string (ByteArray.mk #[])),(Value.int .i64 0),(Value.int .i64 0),(Value.string (ByteArray.mk #[])),(Value.slice none 0 0),(Value.string (ByteArray.mk #[])),(Value.int .i64 0),(Value.int .i64 0),(Value.string (ByteArray.mk #[])),(Value.slice none 0 0),(Value.slice none 0 0),(Value.slice none 0 0)]).1 (opNew h 78 #[(Value.string (ByteArray.mk #[])),(Value.string (ByteArray.mk #[])),(Value.string (ByteArray.mk #[])),(Value.int .i64 0),(Value.int .i64 0),(Value.string (ByteArray.mk #[])),(Value.slice none 0 0),(Value.string (ByteArray.mk #[])),(Value.int .i64 0),(Value.int .i64 0),(Value.string (ByteArray.mk #[])),(Value.slice none 0 0),(Value.slice none 0 0),(Value.slice none 0 0)]).2) undef h) (opNew h 72 #[(Value.int .i64 0),(Value.int .i64 0),(Value.string (ByteArray.mk #[]))]).1 (opNew h 72 #[(Value.int .i64 0),(Value.int .i64 0),(Value.string (ByteArray.mk #[]))]).2) (fun v h=>Q (.pan v) h))) (opNew h 78 #[(Value.string (ByteArray.mk #[])),(Value.string (ByteArray.mk #[])),(Value.string (ByteArray.mk #[])),(Value.int .i64 0),(Value.int .i64 0),(Value.string (ByteArray.mk #[])),(Value.slice none 0 0),(Value.string (ByteArray.mk #[])),(Value.int .i64 0),(Value.int .i64 0),(Value.string (ByteArray.mk #[])),(Value.slice none 0 0),(Value.slice none 0 0),(Value.slice none 0 0)]).1 (opNew h 78 #[(Value.string (ByteArray.mk #[])),(Value.string (ByteArray.mk #[])),(Value.string (ByteArray.mk #[])),(Value.int .i64 0),(Value.int .i64 0),(Value.string (ByteArray.mk #[])),(Value.slice none 0 0),(Value.string (ByteArray.mk #[])),(Value.int .i64 0),(Value.int .i64 0),(Value.string (ByteArray.mk #[])),(Value.slice none 0 0),(Value.slice none 0 0),(Value.slice none 0 0)]).2
theorem X31_eq (t0:Value) (h:AH) (Q:RQ):X31 t0 h Q=wpC Tryd.prog L31 code31 (argA [t0] Tryd.f31.ntmps) h (retK Tryd.prog res31 Q):=by kernel_rfl
theorem X31_body:Tryd.f31.body=some code31:=by kernel_rfl
theorem X31_ok {t0:Value} {h:AH} {Q:RQ} (H:X31 t0 h Q):HC Tryd.prog 31 [t0].toArray h Q:=HC.body Tryd.func31 X31_body ((X31_eq t0 h Q).mp H)
end Go.Proofs.YtnaenhkldanjbaaDoor.X
end
section
namespace Go.Proofs.YtnaenhkldanjbaaDoor.L
open Go.Ab Go.Lang Go.Proofs.YtnaenhkldanjbaaDoor.X
set_option maxRecDepth 100000
structure RT (h h1:AH) (kp:Nat) (T:List Tok) (i:Nat) (st:LS) (t:Tok) (bv bv1:Value) (vs:List Var) (b l:Nat) (s:Lang.Stmt):Prop where
 res:h1.get h.size=some (.cells (celS stmt0).toArray 78 (0,0),none)
 tok:h1.get (h.size + 1)=some (.cells #[.int .i64 t.cls,.int .i64 t.at_,.string t.text] 72 (0,0),none)
 out:h1.get (h.size + 2)=some (.cells (celS s).toArray 78 (0,0),none)
 size:h.size + 3 ≤ h1.size
 S:RS h1 kp T i st bv1 vs b l 0
 A:AdvB kp bv h h1
 B:Bv h bv bv1
 hb:∀ k,blkOf bv1=some k→k < h.size ∨ h.size + 3 ≤ k
 lt:kp < h.size
section
variable {h h1:AH} {kp i:Nat} {T:List Tok} {st:LS} {t:Tok} {bv bv1:Value} {vs:List Var} {b l:Nat} {s:Lang.Stmt}
theorem RT.adv {h2:AH} {i2:Nat} {st2:LS} (x:RT h h1 kp T i st t bv bv1 vs b l s) (S2:RS h2 kp T i2 st2 bv1 vs b l 0) (a:Adv kp h1 h2):RT h h2 kp T i2 st2 t bv bv1 vs b l s:=by
 have h1s:=x.size
 have hlt:=x.lt
 have g:∀ k,h.size ≤ k→k < h.size + 3→h2.get k=h1.get k:=fun k p q=>a.get k (by omega) (by omega)
 exact ⟨(g _ (by omega) (by omega)).trans x.res,(g _ (by omega) (by omega)).trans x.tok,(g _ (by omega) (by omega)).trans x.out,Nat.le_trans x.size a.size,S2,x.A.trans a.b x.B,x.B,x.hb,x.lt⟩
theorem RT.blk {h2:AH} {i2:Nat} {st2:LS} {bv2:Value} (x:RT h h1 kp T i st t bv bv1 vs b l s) (S2:RS h2 kp T i2 st2 bv2 vs b l 0) (a:Adv kp h1 h2) (hb:∀ k,blkOf bv2=some k→h1.size ≤ k):RT h h2 kp T i2 st2 t bv bv2 vs b l s:=by
 have h1s:=x.size
 have hlt:=x.lt
 have h2s:=x.A.size
 have g:∀ k,h.size ≤ k→k < h.size + 3→h2.get k=h1.get k:=fun k p q=>a.get k (by omega) (by omega)
 exact ⟨(g _ (by omega) (by omega)).trans x.res,(g _ (by omega) (by omega)).trans x.tok,(g _ (by omega) (by omega)).trans x.out,Nat.le_trans x.size a.size,S2,x.A.trans a.b x.B,fun k hk=>.inr (by have:=hb k hk;omega),fun k hk=>.inr (by have:=hb k hk;omega),x.lt⟩
theorem RT.set {s':Lang.Stmt} (x:RT h h1 kp T i st t bv bv1 vs b l s):RT h (h1.put (h.size + 2) (some (.cells (celS s').toArray 78 (0,0),none))) kp T i st t bv bv1 vs b l s':=by
 have hlt:=x.lt
 exact ⟨by rw [get_put_ne (by omega)];exact x.res,by rw [get_put_ne (by omega)];exact x.tok,get_put_eq rfl,by rw [sz_put];exact x.size,x.S.off _ (by omega) (fun k hk=>by have:=x.hb k hk;omega),put_adv x.A,x.B,x.hb,x.lt⟩
theorem RT.push (x:RT h h1 kp T i st t bv bv1 vs b l s) (o:Obj):RT h (h1.push o none) kp T i st t bv bv1 vs b l s:=x.adv (x.S.push _ _) (.push (.refl _ _) _ _)
theorem RT.off {q:Nat} (x:RT h h1 kp T i st t bv bv1 vs b l s) (o:Option (Obj × Option Nat)) (hq:h.size + 3 ≤ q) (hb:∀ k,blkOf bv1=some k→k ≠ q):RT h (h1.put q o) kp T i st t bv bv1 vs b l s:=by
 have hlt:=x.lt
 exact ⟨by rw [get_put_ne (by omega)];exact x.res,by rw [get_put_ne (by omega)];exact x.tok,by rw [get_put_ne (by omega)];exact x.out,by rw [sz_put];exact x.size,x.S.off _ (by omega) hb,x.A.put _ _ (.inr (by omega)),x.B,x.hb,x.lt⟩
theorem RT.setName {op x y:ByteArray} {a b':Lang.Expr} {p q:List Lang.Stmt} (X:RT h h1 kp T i st t bv bv1 vs b l (.mk op x a b' p q)):stN 1 h1 (.pointer (some ⟨h.size + 2,1,none⟩)) (.string y)=some (h1.put (h.size + 2) (some (.cells (celS (.mk op y a b' p q)).toArray 78 (0,0),none))) :=
 stN_mid (a:=[.string op]) (b:=[.string x]) (c:=celE a++celE b'++[slV (encSs p),slV (encSs q)]) (v:=.string y) (by have:=X.out;simpa [celS] using this) rfl rfl rfl (fun z hz=>by simp [Value.cells] at hz;subst hz;rfl) |>.trans (by simp [celS,Value.cells])
theorem RT.setA {op x:ByteArray} {a a' b':Lang.Expr} {p q:List Lang.Stmt} (X:RT h h1 kp T i st t bv bv1 vs b l (.mk op x a b' p q)):stN 5 h1 (.pointer (some ⟨h.size + 2,2,none⟩)) (encE a')=some (h1.put (h.size + 2) (some (.cells (celS (.mk op x a' b' p q)).toArray 78 (0,0),none))) :=
 stN_mid (a:=[.string op,.string x]) (b:=celE a) (c:=celE b'++[slV (encSs p),slV (encSs q)]) (v:=encE a') (by have:=X.out;simpa [celS] using this) rfl (celE_len a) (by rw [encE_cells];simp [celE_len]) (fun z hz=>celE_one a' z (by rw [encE_cells] at hz;simpa using hz)) |>.trans (by simp [celS,encE_cells])
theorem RT.setB {op x:ByteArray} {a b' b2:Lang.Expr} {p q:List Lang.Stmt} (X:RT h h1 kp T i st t bv bv1 vs b l (.mk op x a b' p q)):stN 5 h1 (.pointer (some ⟨h.size + 2,7,none⟩)) (encE b2)=some (h1.put (h.size + 2) (some (.cells (celS (.mk op x a b2 p q)).toArray 78 (0,0),none))) :=
 stN_mid (a:=[.string op,.string x]++celE a) (b:=celE b') (c:=[slV (encSs p),slV (encSs q)]) (v:=encE b2) (by have:=X.out;simpa [celS] using this) (by simp [celE_len]) (celE_len b') (by rw [encE_cells];simp [celE_len]) (fun z hz=>celE_one b2 z (by rw [encE_cells] at hz;simpa using hz)) |>.trans (by simp [celS,encE_cells])
theorem RT.setBody {op x:ByteArray} {a b':Lang.Expr} {p p' q:List Lang.Stmt} (X:RT h h1 kp T i st t bv bv1 vs b l (.mk op x a b' p q)):stN 1 h1 (.pointer (some ⟨h.size + 2,12,none⟩)) (slV (encSs p'))=some (h1.put (h.size + 2) (some (.cells (celS (.mk op x a b' p' q)).toArray 78 (0,0),none))) :=
 stN_mid (a:=[.string op,.string x]++celE a++celE b') (b:=[slV (encSs p)]) (c:=[slV (encSs q)]) (v:=slV (encSs p')) (by have:=X.out;simpa [celS] using this) (by simp [celE_len]) rfl (by rw [cells_slV];rfl) (fun z hz=>by rw [cells_slV] at hz;simp at hz;subst hz;exact one_slV _) |>.trans (by simp [celS,cells_slV])
theorem RT.setElse {op x:ByteArray} {a b':Lang.Expr} {p q q':List Lang.Stmt} (X:RT h h1 kp T i st t bv bv1 vs b l (.mk op x a b' p q)):stN 1 h1 (.pointer (some ⟨h.size + 2,13,none⟩)) (slV (encSs q'))=some (h1.put (h.size + 2) (some (.cells (celS (.mk op x a b' p q')).toArray 78 (0,0),none))) :=
 stN_mid (a:=[.string op,.string x]++celE a++celE b'++[slV (encSs p)]) (b:=[slV (encSs q)]) (c:=[]) (v:=slV (encSs q')) (by have:=X.out;simpa [celS] using this) (by simp [celE_len]) rfl (by rw [cells_slV];rfl) (fun z hz=>by rw [cells_slV] at hz;simp at hz;subst hz;exact one_slV _) |>.trans (by simp [celS,cells_slV])
theorem RT.fin {vs0 ex:List Var} {rs:SR} (x:RT h h1 kp T i st t bv bv1 vs b l s) (hvs:vs=vs0++ex) (hex:ex.length ≤ 1) (h1s:rs.map (·.2)=st) (h2s:∀ y r,rs=.ok (y,r)→y=(s,vs)) :
  K31_40 (.pointer (some ⟨h.size,0,none⟩)) (.pointer (some ⟨h.size + 2,0,none⟩)) h1 (SPostR kp T bv vs0 b l h rs):=by
 refine X31_40_ok ?_
 unfold X31_40
 have hlt:=x.lt
 refine bq_of (ldN_full x.out (by simp [celS_len])) ?_
 refine bq_of (stN_full x.res (by simp [celS_len]) (by simp [Value.cells,celS_len]) (fun z hz=>celS_one s z (by simpa [Value.cells] using hz))) ?_
 show bq (seqO [ldN 14 _ _]) _
 rw [ldN_full (get_put_eq rfl) (by simp [Value.cells,celS_len])]
 simp (disch:=(first | exact dz | fail)) only [SXB,SX,reduceIte,Int.reduceLT,Int.reduceLE,Int.reduceToNat,Int.reduceBEq,Int.reduceBNe,Nat.reduceAdd,Nat.reduceMul,Nat.reduceSub,Nat.reduceLeDiff]
 refine ⟨x.A.put _ _ (.inr (Nat.le_refl _)),i,bv1,s,ex,by rw [encS_eq],?_,x.B,hex,fun y r hy=>by rw [← hvs];exact h2s y r hy⟩
 rw [h1s,← hvs]
 exact x.S.off _ (by omega) (fun k hk=>by have:=x.hb k hk;omega)
theorem RT.next {Q:RQ} (x:RT h h1 kp T i st t bv bv1 vs b l s) (hne:∀ ts,st=.ok ts→ts.tail ≠ []) (hq:∀ h2 i2,RT h h2 kp T i2 (tailS st) t bv bv1 vs b l s→Q (.ret (.tuple #[])) h2):HC Tryd.prog 16 [.pointer (some ⟨kp,0,none⟩)].toArray h1 Q :=
 rnext_ok x.S hne fun h2 i2 S2 a2=>hq h2 i2 (x.adv S2 a2)
theorem RT.want {Q:RQ} (x:RT h h1 kp T i st t bv bv1 vs b l s) (k:Nat) (y:ByteArray) (hk:k ≠ 0) (hq:∀ h2 i2,RT h h2 kp T i2 (wantS k y st) t bv bv1 vs b l s→Q (.ret (.tuple #[])) h2):HC Tryd.prog 13 [.pointer (some ⟨kp,0,none⟩),.int .i64 (k:Int),.string y].toArray h1 Q :=
 rwant_ok x.S k y hk fun h2 i2 S2 a2=>hq h2 i2 (x.adv S2 a2)
theorem rexpr_at {ow:Bool} {kp i:Nat} {T:List Tok} {st:LS} {bv:Value} {vs:List Var} {b l w:Nat} {h:AH} (hv:VsNZ vs) (hl:vs.length ≤ 1048576) (S:RSg ow h kp T i st bv vs b l 0) (hw:w < 256) :
  HC Tryd.prog 17 [.pointer (some ⟨kp,0,none⟩),.int .u8 (w:Nat)].toArray h (EPostR ow kp T bv vs b l 0 h (exprS (expr0 vs) w st)):=by
 cases st with
 | error f=>exact rexpr_ok hl hv 0 0 (by omega) _ h i w hw S (fun ts e=>nomatch e)
 | ok ts=>exact rexpr_ok hl hv ts.length 0 (by omega) _ h i w hw S (fun ts' e=>by cases e;exact Nat.le_refl _)
theorem RT.expr {Q:RQ} (x:RT h h1 kp T i st t bv bv1 vs b l s) (hv:VsNZ vs) (hl:vs.length ≤ 1048576) (w:Nat) (hw:w < 256)
  (hq:∀ h2 i2 e k,RT h h2 kp T i2 (tailE (exprS (expr0 vs) w st)) t bv bv1 vs b l s→(∀ y r,exprS (expr0 vs) w st=.ok (y,r)→y=(e,k))→Q (.ret (.tuple #[encE e,.int .u8 (k:Nat)])) h2):HC Tryd.prog 17 [.pointer (some ⟨kp,0,none⟩),.int .u8 (w:Nat)].toArray h1 Q :=
 HC.mono (rexpr_at hv hl x.S hw) fun r h2 hp=>by
  obtain ⟨a2,i2,e,k,rfl,S2,hy⟩:=hp
  exact hq h2 i2 e k (x.adv S2 a2) hy
theorem RT.bind {Q:RQ} (x:RT h h1 kp T i st t bv bv1 vs b l s) (hv:VsNZ vs) (hl:vs.length ≤ 1048576)
  (hq:∀ h2 i2 n,RT h h2 kp T i2 (bindS vs st) t bv bv1 vs b l s→(∀ ts y r,st=.ok ts→Lang.unboundF vs ts=.ok (y,r)→y=n)→Q (.ret (.string n)) h2):HC Tryd.prog 40 [.pointer (some ⟨kp,0,none⟩)].toArray h1 Q :=
 rbind_ok x.S hl hv fun h2 i2 n S2 a2 hy=>hq h2 i2 n (x.adv S2 a2) hy
theorem RT.block {M:Nat} {blk:BlockRd} {mv:Value} {more:List Var} {loop:Bool} {Q:RQ} (HB:RBlockOK kp T b l blk M) (x:RT h h1 kp T i st t bv bv1 vs b l s) (hn:lenS st ≤ M) (hv:VsNZ vs) (hm:VsNZ more) (hsz:vs.length + more.length + lenS st ≤ 100000)
  (hsrc:∀ h',Adv kp h1 h'→Src h' 2 mv (more.map encV))
  (hq:∀ h2 i2 bv2 ss,RT h h2 kp T i2 ((blockS blk loop (vs++more) st).map (·.2)) t bv bv2 vs b l s→(∀ y r,blockS blk loop (vs++more) st=.ok (y,r)→y=ss)→Q (.ret (slV (encSs ss))) h2) :
  HC Tryd.prog 14 [.pointer (some ⟨kp,0,none⟩),.int .i64 (loopN loop:Nat),mv].toArray h1 Q :=
 HC.mono (HB loop st i bv1 mv vs more h1 hn hv hm hsz x.S hsrc) fun r h2 hp=>by
  obtain ⟨a2,i2,bv2,ss,rfl,S2,hb,hy⟩:=hp
  exact hq h2 i2 bv2 ss (x.blk S2 a2 hb) hy
end
end Go.Proofs.YtnaenhkldanjbaaDoor.L
end
section
namespace Go.Lang
mutual
def szE:Expr→Nat
 | .mk _ _ _ _ args=>1 + szEs args
def szEs:List Expr→Nat
 | []=>0
 | e::l=>szE e + szEs l
end
theorem szE_pos (e:Expr):1 ≤ szE e:=by cases e;rw [szE];omega
theorem szEs_len:∀ l:List Expr,l.length ≤ szEs l
 | []=>Nat.zero_le _
 | e::l=>by rw [szEs,List.length_cons];have:=szE_pos e;have:=szEs_len l;omega
theorem szE_mem {x:Expr}:∀ {l:List Expr},x ∈ l→szE x ≤ szEs l
 | e::l,h=>by
  rw [szEs]
  rcases List.mem_cons.1 h with h | h
  ·rw [h];omega
  ·have:=szE_mem h;omega
mutual
def szS:Stmt→Nat
 | .mk _ _ a b body els=>1 + szE a + szE b + szSs body + szSs els
def szSs:List Stmt→Nat
 | []=>0
 | e::l=>szS e + szSs l
end
theorem szS_pos (e:Stmt):1 ≤ szS e:=by cases e;rw [szS];omega
theorem szSs_len:∀ l:List Stmt,l.length ≤ szSs l
 | []=>Nat.zero_le _
 | e::l=>by rw [szSs,List.length_cons];have:=szS_pos e;have:=szSs_len l;omega
theorem szS_mem {x:Stmt}:∀ {l:List Stmt},x ∈ l→szS x ≤ szSs l
 | e::l,h=>by
  rw [szSs]
  rcases List.mem_cons.1 h with h | h
  ·rw [h];omega
  ·have:=szS_mem h;omega
theorem sz_zero:szE .zero=1:=by unfold Expr.zero;rw [szE,szEs]
theorem want_len {k:Nat} {x:ByteArray} {ts r:List Tok} (h:want k x ts=.ok r) (hne:ts ≠ []):r.length + 1 ≤ ts.length:=by
 unfold want at h
 split at h
 ·cases h
  cases ts with
  | nil=>exact absurd rfl hne
  | cons t r=>simp
 ·cases h
theorem want_ne {k:Nat} {x:ByteArray} {ts r:List Tok} (h:want k x ts=.ok r):ts ≠ []:=by
 intro e;subst e
 unfold want isT at h
 cases h
theorem want_le {k:Nat} {x:ByteArray} {ts r:List Tok} (h:want k x ts=.ok r):r.length + 1 ≤ ts.length:=want_len h (want_ne h)
theorem fresh_le {ts r:List Tok} {t:Tok} (h:fresh ts=.ok (t,r)):r.length + 1 ≤ ts.length:=by
 cases ts with
 | nil=>cases h
 | cons u r' =>
  simp only [fresh] at h
  split at h
  ·cases h
  ·cases h;simp
theorem unbound_le {vs:List Var} {ts r:List Tok} {x:ByteArray} (h:unboundF vs ts=.ok (x,r)):r.length + 1 ≤ ts.length:=by
 unfold unboundF at h
 split at h
 ·cases h
 ·rename_i hf
  split at h
  ·cases h
  ·cases h;exact fresh_le hf
def RdSz (rd:ExprRd):Prop:=∀ ts e k r,rd ts=.ok ((e,k),r)→szE e + r.length ≤ ts.length
theorem ofK_sz {rd:ExprRd} (hr:RdSz rd) {k:Nat} {ts r:List Tok} {e:Expr} (h:ofK rd k ts=.ok (e,r)):szE e + r.length ≤ ts.length:=by
 unfold ofK at h
 split at h
 ·rename_i hx
  split at h
  ·cases h;exact hr _ _ _ _ hx
  ·cases h
 ·cases h
theorem argsF_sz {rd:ExprRd} (hr:RdSz rd):∀ {ks:List UInt8} {first:Bool} {ts r:List Tok} {es:List Expr},argsF rd ks first ts=.ok (es,r)→szEs es + r.length ≤ ts.length:=by
 intro ks
 induction ks with
 | nil=>intro first ts r es h;rw [argsF] at h;cases h;rw [szEs];omega
 | cons k ks ih =>
  intro first ts r es h
  rw [argsF] at h
  split at h
  ·cases h
  ·rename_i t1 h1
   have l1:t1.length ≤ ts.length:=by
    split at h1
    ·cases h1;exact Nat.le_refl _
    ·have:=want_le h1;omega
   split at h
   ·cases h
   ·rename_i e t2 h2
    have l2:=ofK_sz hr h2
    split at h
    ·cases h
    ·rename_i es' t3 h3
     have l3:=ih h3
     cases h
     rw [szEs];omega
theorem exprF_sz (vs:List Var):∀ n c:Nat,RdSz (exprF n c vs):=by
 intro n
 induction n with
 | zero=>intro c ts e k r h;cases h
 | succ n ih =>
  intro c ts e k r h
  cases ts with
  | nil=>cases h
  | cons t ts =>
   unfold exprF at h
   simp only at h
   split at h
   ·cases h;rw [szE,szEs];simp;omega
   split at h
   ·cases h;rw [szE,szEs];simp;omega
   split at h
   ·cases h
   ·rename_i t2 r2 hf
    have lf:=fresh_le hf
    split at h
    ·unfold callF at h
     split at h
     ·cases h
     ·split at h
      ·cases h
      ·split at h
       ·cases h
       ·rename_i es t3 ha
        have la:=argsF_sz (ih (c + 1)) ha
        split at h
        ·cases h
        ·rename_i t4 hw
         have lw:=want_le hw
         cases h
         rw [szE]
         have:r2.tail.length ≤ r2.length:=by simp
         omega
    ·split at h
     ·cases h;rw [szE,szEs];simp at lf ⊢;omega
     ·cases h
theorem expr0_sz (vs:List Var):RdSz (expr0 vs):=fun ts e k r h=>exprF_sz vs _ _ _ _ _ _ h
def BlkSz (blk:BlockRd):Prop:=∀ l vs ts b r,blk l vs ts=.ok (b,r)→szSs b + r.length + 1 ≤ ts.length
theorem emitF_sz {vs:List Var} {ts r:List Tok} {s:Stmt} (h:emitF vs ts=.ok (s,r)):szS s + r.length ≤ ts.length + 1:=by
 unfold emitF at h
 split at h
 ·cases h
 rename_i a t1 h1
 split at h
 ·cases h
 rename_i t2 h2
 split at h
 ·cases h
 rename_i b t3 h3
 split at h
 ·cases h
 rename_i t4 h4
 cases h
 have:=ofK_sz (expr0_sz vs) h1
 have:=want_le h2
 have:=ofK_sz (expr0_sz vs) h3
 have:=want_le h4
 rw [szS,szSs];omega
theorem letF_sz {vs:List Var} {ts r:List Tok} {s:Stmt} {v:Var} (h:letF vs ts=.ok ((s,v),r)):szS s + r.length ≤ ts.length + 1:=by
 unfold letF at h
 split at h
 ·cases h
 rename_i h1
 split at h
 ·cases h
 rename_i h2
 split at h
 ·cases h
 rename_i h3
 split at h
 ·cases h
 rename_i h4
 cases h
 have:=unbound_le h1
 have:=want_le h2
 have:=expr0_sz vs _ _ _ _ h3
 have:=want_le h4
 rw [szS,szSs,sz_zero];omega
theorem ifF_sz {blk:BlockRd} (hb:BlkSz blk) {vs:List Var} {ts r:List Tok} {s:Stmt} (h:ifF blk vs ts=.ok (s,r)):szS s + r.length ≤ ts.length + 1:=by
 unfold ifF at h
 split at h
 ·cases h
 rename_i h1
 split at h
 ·cases h
 rename_i h2
 have l1:=ofK_sz (expr0_sz vs) h1
 have l2:=hb _ _ _ _ _ h2
 split at h
 ·split at h
  ·cases h
  rename_i h3
  have l3:=hb _ _ _ _ _ h3
  cases h
  rw [szS,sz_zero]
  simp at l3
  omega
 ·cases h
  rw [szS,sz_zero,szSs];omega
theorem forF_sz {blk:BlockRd} (hb:BlkSz blk) {vs:List Var} {ts r:List Tok} {s:Stmt} (h:forF blk vs ts=.ok (s,r)):szS s + r.length ≤ ts.length + 1:=by
 unfold forF at h
 split at h
 ·cases h
 rename_i h1
 split at h
 ·cases h
 rename_i h2
 split at h
 ·cases h
 rename_i h3
 split at h
 ·cases h
 rename_i h4
 cases h
 have:=unbound_le h1
 have:=want_le h2
 have:=ofK_sz (expr0_sz vs) h3
 have:=hb _ _ _ _ _ h4
 rw [szS,sz_zero,szSs];omega
theorem eachF_sz {blk:BlockRd} (hb:BlkSz blk) {vs:List Var} {ts r:List Tok} {s:Stmt} (h:eachF blk vs ts=.ok (s,r)):szS s + r.length ≤ ts.length + 1:=by
 unfold eachF at h
 split at h
 ·cases h
 rename_i h1
 split at h
 ·cases h
 rename_i h2
 split at h
 ·cases h
 rename_i h3
 split at h
 ·cases h
 rename_i h4
 split at h
 ·cases h
 rename_i h5
 split at h
 ·cases h
 rename_i h6
 cases h
 have:=unbound_le h1
 have:=want_le h2
 have:=ofK_sz (expr0_sz vs) h3
 have:=want_le h4
 have:=ofK_sz (expr0_sz vs) h5
 have:=hb _ _ _ _ _ h6
 rw [szS,szSs];omega
theorem stmtF_sz {blk:BlockRd} (hb:BlkSz blk) {vs vs':List Var} {ts r:List Tok} {s:Stmt} (h:stmtF blk vs ts=.ok ((s,vs'),r)):szS s + r.length ≤ ts.length:=by
 cases ts with
 | nil=>cases h
 | cons t r0 =>
  simp only [stmtF] at h
  rw [List.length_cons]
  split at h
  ·cases h
  split at h
  ·obtain ⟨z,hz,e⟩:=map_ok h;cases e;exact emitF_sz hz
  split at h
  ·obtain ⟨⟨⟨s',v'⟩,r'⟩,hz,e⟩:=map_ok h;cases e;exact letF_sz hz
  split at h
  ·obtain ⟨z,hz,e⟩:=map_ok h;cases e;exact ifF_sz hb hz
  split at h
  ·obtain ⟨z,hz,e⟩:=map_ok h;cases e;exact eachF_sz hb hz
  split at h
  ·obtain ⟨z,hz,e⟩:=map_ok h;cases e;exact forF_sz hb hz
  ·cases h
theorem isT_le {k:Nat} {x:ByteArray} {ts:List Tok} (h:isT ts k x=true):ts.tail.length + 1 ≤ ts.length:=by
 cases ts with
 | nil=>cases h
 | cons t r=>simp
theorem blockG_sz {rd:Nat→Nat→List Var→List Tok→R (List Stmt × List Tok)} (hr:∀ b l vs ts ss r,rd b l vs ts=.ok (ss,r)→szSs ss + r.length ≤ ts.length) (b l:Nat):BlkSz (blockG rd b l):=fun loop vs ts ss r h=>by
 unfold blockG at h
 split at h
 ·cases h
 split at h
 ·cases h
 ·rename_i hw
  have:=want_le hw
  have:=hr _ _ _ _ _ _ h
  omega
theorem stmtsF_sz:∀ (n b l:Nat) (vs:List Var) (ts:List Tok) (ss:List Stmt) (r:List Tok),stmtsF n b l vs ts=.ok (ss,r)→szSs ss + r.length ≤ ts.length:=by
 intro n
 induction n with
 | zero=>intro b l vs ts ss r h;cases h
 | succ n ih =>
  intro b l vs ts ss r h
  simp only [stmtsF] at h
  split at h
  ·rename_i h1
   cases h
   rw [szSs]
   have:=isT_le h1
   omega
  split at h
  ·cases h
  rename_i h1
  have l1:=stmtF_sz (blockG_sz (fun b l vs ts ss r h=>ih b l vs ts ss r h) b l) h1
  split at h
  ·cases h
  rename_i h2
  have l2:=ih _ _ _ _ _ _ h2
  cases h
  rw [szSs];omega
theorem block0_sz {vs:List Var} {ts r:List Tok} {ss:List Stmt} (h:block0 vs ts=.ok (ss,r)):szSs ss + r.length ≤ ts.length:=by
 have:=blockG_sz (fun b l vs ts ss r h=>stmtsF_sz _ b l vs ts ss r h) 0 0 false vs ts ss r h
 omega
def SmP (n:Nat) (p:Prog):Prop:=szSs p.map ≤ n∧szSs p.combine ≤ n∧szSs p.reduce ≤ n∧szE p.part ≤ n
theorem reduceF_sz {n:Nat} {p q:Prog} {ts:List Tok} (hp:SmP n p) (hn:ts.length ≤ n) (h:reduceF p ts=.ok q):SmP n q:=by
 unfold reduceF at h
 split at h
 ·cases h
 rename_i t1 h1
 split at h
 ·cases h
 rename_i l t2 h2
 have l1:=want_le h1
 have l2:=block0_sz h2
 unfold partF at h
 split at h
 ·cases h
 rename_i p3 t3 h3
 have k3:SmP n p3:=by
  unfold partE at h3
  split at h3
  ·split at h3
   ·cases h3
   rename_i e t4 h4
   have l4:=ofK_sz (expr0_sz _) h4
   have:t2.tail.length ≤ t2.length:=by simp
   split at h3
   ·cases h3
   cases h3
   exact ⟨hp.1,hp.2.1,by show szSs l ≤ n;omega,by show szE e ≤ n;omega⟩
  ·cases h3
   exact ⟨hp.1,hp.2.1,by show szSs l ≤ n;omega,hp.2.2.2⟩
 split at h
 ·cases h
 cases h
 exact k3
theorem programF_sz {n:Nat} {ts:List Tok} {q:Prog} (hn:ts.length ≤ n) (h1n:1 ≤ n) (h:programF ts=.ok q):SmP n q:=by
 unfold programF at h
 split at h
 ·cases h
 rename_i t1 h1
 split at h
 ·cases h
 rename_i l t2 h2
 have l1:=want_le h1
 have l2:=block0_sz h2
 split at h
 ·split at h
  ·cases h
  rename_i lc t3 h3
  have l3:=block0_sz h3
  have:t2.tail.length ≤ t2.length:=by simp
  exact reduceF_sz ⟨by show szSs l ≤ n;omega,by show szSs lc ≤ n;omega,by show szSs [] ≤ n;rw [szSs];omega,by show szE .zero ≤ n;rw [sz_zero];omega⟩ (by omega) h
 ·exact reduceF_sz ⟨by show szSs l ≤ n;omega,by show szSs [] ≤ n;rw [szSs];omega,by show szSs [] ≤ n;rw [szSs];omega,by show szE .zero ≤ n;rw [sz_zero];omega⟩ (by omega) h
end Go.Lang
end
