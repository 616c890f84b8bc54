import Derived.KernelRfl
import Derived.Test.YtibigfkeaemanaaGreatDoorProg
import Derived.Test.YtibigfkeaemanaaGreatDoorZ15
import Derived.Test.YtibigfkeaemanaaGreatDoorZ31
import Derived.Test.YtibigfkeaemanaaGreatDoorZ36
set_option linter.unusedVariables false
set_option linter.unusedSimpArgs false
section
namespace Go.Proofs.YtibigfkeaemanaaGreatDoor.X
open Go.Ab
set_option maxRecDepth 100000
noncomputable def code4:Code:=match Tryz.f4.body with | some c=>c | none=>.skip
noncomputable def res4:List ResultVar:=Tryz.f4.results.toList
def L4:Nat→Option (List Nat):=fun r=>if r=7 then some [0,1,5,7,8,9] else if r=8 then some [0,1,5,7,8,9] else if r=10 then some [0,1,5,7,8,9,10] else if r=16 then some [0,1,5,7,8,9] else if r=24 then some [0,1,5,8,11,12,13] else if r=25 then some [0,1,5,8,11,12,13] else none
noncomputable def H4_7 (t0 t1 t5 t7 t8 t9:Value) (h:AH) (Q:RQ):Prop:=HL Tryz.prog (cAt code4 [.r,.r,.r,.r,.r,.l,.r,.i,.i]) (mkA 123 [(0,t0),(1,t1),(5,t5),(7,t7),(8,t8),(9,t9)]) h (ctxAt Tryz.prog L4 code4 [.r,.r,.r,.r,.r,.l,.r,.i] (retK Tryz.prog res4 Q))
noncomputable def H4_10 (t0 t1 t5 t7 t8 t9 t10:Value) (h:AH) (Q:RQ):Prop:=HL Tryz.prog (cAt code4 (.r::.r::.r::.r::.r::Dir.l::.r::Dir.i::Dir.i::.r::Dir.l::Dir.i::Dir.l::.r::Dir.i::Dir.i::[])) (mkA 123 [(0,t0),(1,t1),(5,t5),(7,t7),(8,t8),(9,t9),(10,t10)]) h (ctxAt Tryz.prog L4 code4 [.r,.r,.r,.r,.r,.l,.r,.i,.i,.r,.l,.i,.l,.r,.i] (retK Tryz.prog res4 Q))
noncomputable def H4_24 (t0 t1 t5 t8 t11 t12 t13:Value) (h:AH) (Q:RQ):Prop:=HL Tryz.prog (cAt code4 [.r,.r,.r,.r,.r,.r,.r,.r,.r,.l,.r,.i,.i]) (mkA 123 [(0,t0),(1,t1),(5,t5),(8,t8),(11,t11),(12,t12),(13,t13)]) h (ctxAt Tryz.prog L4 code4 [.r,.r,.r,.r,.r,.r,.r,.r,.r,.l,.r,.i] (retK Tryz.prog res4 Q))
noncomputable def J4_16 (t0 t1 t5 t7 t8 t9:Value) (h:AH) (Q:RQ):Prop:=wpC Tryz.prog L4 (cAt code4 [.r,.r,.r,.r,.r,.l,.r,.i,.i,.r,.l,.i,.r,.r]) (mkA 123 [(0,t0),(1,t1),(5,t5),(7,t7),(8,t8),(9,t9)]) h (ctxAt Tryz.prog L4 code4 [.r,.r,.r,.r,.r,.l,.r,.i,.i,.r,.l,.i,.r,.r] (retK Tryz.prog res4 Q))
noncomputable def K4_16 (t0 t1 t5 t7 t8 t9:Value) (h:AH) (Q:RQ):Prop:=(ctxAt Tryz.prog L4 code4 [.r,.r,.r,.r,.r,.l,.r,.i,.i,.r,.l,.i,.r,.l] (retK Tryz.prog res4 Q)) .normal (mkA 123 [(0,t0),(1,t1),(5,t5),(7,t7),(8,t8),(9,t9)]) h
theorem K4_16_eq (t0 t1 t5 t7 t8 t9:Value) (h:AH) (Q:RQ):J4_16 t0 t1 t5 t7 t8 t9 h Q=K4_16 t0 t1 t5 t7 t8 t9 h Q:=join_eq (p:=[.r,.r,.r,.r,.r,.l,.r,.i,.i,.r,.l,.i,.r]) (code:=code4) (by kernel_rfl) (by kernel_rfl)
noncomputable def J4_25 (t0 t1 t5 t8 t11 t12 t13:Value) (h:AH) (Q:RQ):Prop:=wpC Tryz.prog L4 (cAt code4 [.r,.r,.r,.r,.r,.r,.r,.r,.r,.l,.r,.i,.i,.r,.r]) (mkA 123 [(0,t0),(1,t1),(5,t5),(8,t8),(11,t11),(12,t12),(13,t13)]) h (ctxAt Tryz.prog L4 code4 [.r,.r,.r,.r,.r,.r,.r,.r,.r,.l,.r,.i,.i,.r,.r] (retK Tryz.prog res4 Q))
noncomputable def K4_25 (t0 t1 t5 t8 t11 t12 t13:Value) (h:AH) (Q:RQ):Prop:=(ctxAt Tryz.prog L4 code4 [.r,.r,.r,.r,.r,.r,.r,.r,.r,.l,.r,.i,.i,.r,.l] (retK Tryz.prog res4 Q)) .normal (mkA 123 [(0,t0),(1,t1),(5,t5),(8,t8),(11,t11),(12,t12),(13,t13)]) h
theorem K4_25_eq (t0 t1 t5 t8 t11 t12 t13:Value) (h:AH) (Q:RQ):J4_25 t0 t1 t5 t8 t11 t12 t13 h Q=K4_25 t0 t1 t5 t8 t11 t12 t13 h Q:=join_eq (p:=[.r,.r,.r,.r,.r,.r,.r,.r,.r,.l,.r,.i,.i,.r]) (code:=code4) (by kernel_rfl) (by kernel_rfl)
noncomputable def J4_8 (t0 t1 t5 t7 t8 t9:Value) (h:AH) (Q:RQ):Prop:=wpC Tryz.prog L4 (cAt code4 [.r,.r,.r,.r,.r,.l,.r,.i,.i,.r,.r]) (mkA 123 [(0,t0),(1,t1),(5,t5),(7,t7),(8,t8),(9,t9)]) h (ctxAt Tryz.prog L4 code4 [.r,.r,.r,.r,.r,.l,.r,.i,.i,.r,.r] (retK Tryz.prog res4 Q))
noncomputable def K4_8 (t0 t1 t5 t7 t8 t9:Value) (h:AH) (Q:RQ):Prop:=(ctxAt Tryz.prog L4 code4 [.r,.r,.r,.r,.r,.l,.r,.i,.i,.r,.l] (retK Tryz.prog res4 Q)) .normal (mkA 123 [(0,t0),(1,t1),(5,t5),(7,t7),(8,t8),(9,t9)]) h
theorem K4_8_eq (t0 t1 t5 t7 t8 t9:Value) (h:AH) (Q:RQ):J4_8 t0 t1 t5 t7 t8 t9 h Q=K4_8 t0 t1 t5 t7 t8 t9 h Q:=join_eq (p:=[.r,.r,.r,.r,.r,.l,.r,.i,.i,.r]) (code:=code4) (by kernel_rfl) (by kernel_rfl)
noncomputable def X4_8 (t0 t1 t5 t7 t8 t9:Value) (h:AH) (Q:RQ):Prop :=
 let t29:Value:=t9
 bq (binV Tryz.prog .add 3 (.tmp 29) (.const (Value.int .i64 1)) t29 (Value.int .i64 1) h) fun t30 =>
 let t9:Value:=t30
 H4_7 t0 t1 t5 t7 t8 t9 h Q
theorem X4_8_eq (t0 t1 t5 t7 t8 t9:Value) (h:AH) (Q:RQ):X4_8 t0 t1 t5 t7 t8 t9 h Q=wpC Tryz.prog L4 (cAt code4 [.r,.r,.r,.r,.r,.l,.r,.i,.i,.r,.r]) (mkA 123 [(0,t0),(1,t1),(5,t5),(7,t7),(8,t8),(9,t9)]) h (ctxAt Tryz.prog L4 code4 [.r,.r,.r,.r,.r,.l,.r,.i,.i,.r,.r] (retK Tryz.prog res4 Q)):=by kernel_rfl
theorem X4_8_ok {t0 t1 t5 t7 t8 t9:Value} {h:AH} {Q:RQ} (H:X4_8 t0 t1 t5 t7 t8 t9 h Q):K4_8 t0 t1 t5 t7 t8 t9 h Q:=(K4_8_eq t0 t1 t5 t7 t8 t9 h Q).mp (((X4_8_eq t0 t1 t5 t7 t8 t9 h Q).mp H))
noncomputable def X4_25 (t0 t1 t5 t8 t11 t12 t13:Value) (h:AH) (Q:RQ):Prop :=
 let t75:Value:=t13
 bq (binV Tryz.prog .add 3 (.tmp 75) (.const (Value.int .i64 1)) t75 (Value.int .i64 1) h) fun t76 =>
 let t13:Value:=t76
 H4_24 t0 t1 t5 t8 t11 t12 t13 h Q
theorem X4_25_eq (t0 t1 t5 t8 t11 t12 t13:Value) (h:AH) (Q:RQ):X4_25 t0 t1 t5 t8 t11 t12 t13 h Q=wpC Tryz.prog L4 (cAt code4 [.r,.r,.r,.r,.r,.r,.r,.r,.r,.l,.r,.i,.i,.r,.r]) (mkA 123 [(0,t0),(1,t1),(5,t5),(8,t8),(11,t11),(12,t12),(13,t13)]) h (ctxAt Tryz.prog L4 code4 [.r,.r,.r,.r,.r,.r,.r,.r,.r,.l,.r,.i,.i,.r,.r] (retK Tryz.prog res4 Q)):=by kernel_rfl
theorem X4_25_ok {t0 t1 t5 t8 t11 t12 t13:Value} {h:AH} {Q:RQ} (H:X4_25 t0 t1 t5 t8 t11 t12 t13 h Q):K4_25 t0 t1 t5 t8 t11 t12 t13 h Q:=(K4_25_eq t0 t1 t5 t8 t11 t12 t13 h Q).mp (((X4_25_eq t0 t1 t5 t8 t11 t12 t13 h Q).mp H))
noncomputable def X4_16 (t0 t1 t5 t7 t8 t9:Value) (h:AH) (Q:RQ):Prop :=
 let t51:Value:=t7
 let t52:Value:=t0
 let t53:Value:=t9
 bq (ia 1 t52 t53) fun t54 =>
 bq (ld1 h t54) fun t55 =>
 bq (binV Tryz.prog .add 9 (.tmp 51) (.tmp 55) t51 t55 h) fun t56 =>
 let t7:Value:=t56
 let t57:Value:=t0
 let t58:Value:=t9
 bq (ia 1 t57 t58) fun t59 =>
 bq (ld1 h t59) fun t60 =>
 let t61:Value:=t1
 bq (binV Tryz.prog .eql 9 (.tmp 60) (.tmp 61) t60 t61 h) fun t62 =>
 condP (some t62)
 (let t63:Value:=t8
 bq (binV Tryz.prog .add 3 (.tmp 63) (.const (Value.int .i64 1)) t63 (Value.int .i64 1) h) fun t64 =>
 let t8:Value:=t64
 K4_8 t0 t1 t5 t7 t8 t9 h Q)
 (K4_8 t0 t1 t5 t7 t8 t9 h Q)
theorem X4_16_eq (t0 t1 t5 t7 t8 t9:Value) (h:AH) (Q:RQ):X4_16 t0 t1 t5 t7 t8 t9 h Q=wpC Tryz.prog L4 (cAt code4 [.r,.r,.r,.r,.r,.l,.r,.i,.i,.r,.l,.i,.r,.r]) (mkA 123 [(0,t0),(1,t1),(5,t5),(7,t7),(8,t8),(9,t9)]) h (ctxAt Tryz.prog L4 code4 [.r,.r,.r,.r,.r,.l,.r,.i,.i,.r,.l,.i,.r,.r] (retK Tryz.prog res4 Q)):=by kernel_rfl
theorem X4_16_ok {t0 t1 t5 t7 t8 t9:Value} {h:AH} {Q:RQ} (H:X4_16 t0 t1 t5 t7 t8 t9 h Q):K4_16 t0 t1 t5 t7 t8 t9 h Q:=(K4_16_eq t0 t1 t5 t7 t8 t9 h Q).mp (((X4_16_eq t0 t1 t5 t7 t8 t9 h Q).mp H))
noncomputable def X4_24 (t0 t1 t5 t8 t11 t12 t13:Value) (h:AH) (Q:RQ):Prop :=
 let t71:Value:=t13
 let t72:Value:=t11
 bq (lenL t72) fun t73 =>
 bq (binV Tryz.prog .lss 3 (.tmp 71) (.tmp 73) t71 t73 h) fun t74 =>
 condP (some t74)
 (let t77:Value:=t11
 let t78:Value:=t13
 bq (ia 2 t77 t78) fun t79 =>
 bq (fa 0 1 t79) fun t80 =>
 bq (ld1 h t80) fun t81 =>
 let t82:Value:=t1
 bq (binV Tryz.prog .eql 9 (.tmp 81) (.tmp 82) t81 t82 h) fun t83 =>
 condP (some t83)
 (let t84:Value:=t12
 let t85:Value:=t11
 let t86:Value:=t13
 bq (ia 2 t85 t86) fun t87 =>
 bq (fa 1 1 t87) fun t88 =>
 bq (ld1 h t88) fun t89 =>
 bq (bs 9 #[(Value.string (ByteArray.mk #[]))] 1 h [(0,1,t89)]) fun r=>(fun t90 h =>
 bq (apT 9 1 16 (some (Value.string (ByteArray.mk #[]))) h t84 t90) fun r=>(fun t91 h =>
 let t12:Value:=t91
 K4_25 t0 t1 t5 t8 t11 t12 t13 h Q) r.1 r.2) r.1 r.2)
 (K4_25 t0 t1 t5 t8 t11 t12 t13 h Q))
 (let t92:Value:=t5
 let t93:Value:=t1
 let t94:Value:=t12
 HC Tryz.prog 13 (([]:List Value)++[t92,t93,t94]++([]:List Value)).toArray h (resK (fun t95 h =>
 let t14:Value:=t95
 let t96:Value:=t11
 bq (lenL t96) fun t97 =>
 let t98:Value:=t0
 bq (lenL t98) fun t99 =>
 (if [t99,(Value.int .i64 256)].all (plainN 12) then bq (flatV Tryz.prog (Builtin.min_ #[3,3] 3 [t99,(Value.int .i64 256)].toArray)) fun t100 =>
 bq (binV Tryz.prog .eql 3 (.tmp 97) (.tmp 100) t97 t100 h) fun t101 =>
 let t102:Value:=t101
 guardQ t102 true h (fun k=>k t12 h) fun t103 h =>
 guardQ t102 true h (fun k=>bq (lenL t103) fun v=>k v h) fun t104 h =>
 guardQ t102 true h (fun k=>k t8 h) fun t105 h =>
 guardQ t102 true h (fun k=>bq (binV Tryz.prog .eql 3 (.tmp 104) (.tmp 105) t104 t105 h) fun v=>k v h) fun t106 h =>
 bq (pickV t102 t106 (Value.bool false)) fun t107 =>
 let t108:Value:=t107
 guardQ t108 true h (fun k=>k t14 h) fun t109 h =>
 guardQ t108 true h (fun k=>bq (lenL t109) fun v=>k v h) fun t110 h =>
 guardQ t108 true h (fun k=>bq (binV Tryz.prog .eql 3 (.tmp 110) (.const (Value.int .i64 1)) t110 (Value.int .i64 1) h) fun v=>k v h) fun t111 h =>
 bq (pickV t108 t111 (Value.bool false)) fun t112 =>
 let t113:Value:=t112
 guardQ t113 true h (fun k=>k t14 h) fun t114 h =>
 guardQ t113 true h (fun k=>bq (ia 2 t114 (Value.int .i64 0)) fun v=>k v h) fun t115 h =>
 guardQ t113 true h (fun k=>bq (ldN 2 h t115) fun v=>k v h) fun t116 h =>
 guardQ t113 true h (fun k=>k t1 h) fun t117 h =>
 guardQ t113 true h (fun k=>k t8 h) fun t118 h =>
 guardQ t113 true h (fun k=>HC Tryz.prog 14 (([]:List Value)++[t118]++([]:List Value)).toArray h (resK k (fun v h=>Q (.pan v) h))) fun t119 h =>
 ((guardQ t113 true h (fun k=>bq (ldN 2 h t115) fun v=>k v h) fun u _=>(u=t116))∧(True)) ∧
 guardQ t113 true h (fun k=>bq (bd #[(Value.string (ByteArray.mk #[])),(Value.string (ByteArray.mk #[]))] [(0,1,t117),(1,1,t119)]) fun v=>k v h) fun t120 h =>
 guardQ t113 true h (fun k=>bq (binV Tryz.prog .eql 40 (.tmp 116) (.tmp 120) t116 t120 h) fun v=>k v h) fun t121 h =>
 bq (pickV t113 t121 (Value.bool false)) fun t122 =>
 let t4:Value:=t122
 Q (.ret t4) h else False)) (fun v h=>Q (.pan v) h)))
theorem X4_24_eq (t0 t1 t5 t8 t11 t12 t13:Value) (h:AH) (Q:RQ):X4_24 t0 t1 t5 t8 t11 t12 t13 h Q=wpC Tryz.prog L4 (cAt code4 [.r,.r,.r,.r,.r,.r,.r,.r,.r,.l,.r,.i,.i]) (mkA 123 [(0,t0),(1,t1),(5,t5),(8,t8),(11,t11),(12,t12),(13,t13)]) h (ctxAt Tryz.prog L4 code4 [.r,.r,.r,.r,.r,.r,.r,.r,.r,.l,.r,.i,.i] (retK Tryz.prog res4 Q)):=by kernel_rfl
theorem X4_24_ok {t0 t1 t5 t8 t11 t12 t13:Value} {h:AH} {Q:RQ} (H:X4_24 t0 t1 t5 t8 t11 t12 t13 h Q):H4_24 t0 t1 t5 t8 t11 t12 t13 h Q:=HL.step (L:=L4) ((X4_24_eq t0 t1 t5 t8 t11 t12 t13 h Q).mp H)
noncomputable def X4_10 (t0 t1 t5 t7 t8 t9 t10:Value) (h:AH) (Q:RQ):Prop :=
 let t31:Value:=t10
 let t32:Value:=t0
 let t33:Value:=t9
 bq (ia 1 t32 t33) fun t34 =>
 bq (ld1 h t34) fun t35 =>
 bq (lenS t35) fun t36 =>
 bq (binV Tryz.prog .lss 3 (.tmp 31) (.tmp 36) t31 t36 h) fun t37 =>
 condP (some t37)
 (let t40:Value:=t0
 let t41:Value:=t9
 bq (ia 1 t40 t41) fun t42 =>
 bq (ld1 h t42) fun t43 =>
 let t44:Value:=t10
 bq (ixS t43 t44) fun t45 =>
 bq (binV Tryz.prog .eql 5 (.tmp 45) (.const (Value.int .u8 32)) t45 (Value.int .u8 32) h) fun t46 =>
 condP (some t46)
 (let t4:Value:=(Value.bool true)
 Q (.ret t4) h)
 (let t38:Value:=t10
 bq (binV Tryz.prog .add 3 (.tmp 38) (.const (Value.int .i64 1)) t38 (Value.int .i64 1) h) fun t39 =>
 let t10:Value:=t39
 H4_10 t0 t1 t5 t7 t8 t9 t10 h Q))
 (let t47:Value:=t9
 bq (binV Tryz.prog .gtr 3 (.tmp 47) (.const (Value.int .i64 0)) t47 (Value.int .i64 0) h) fun t48 =>
 condP (some t48)
 (let t49:Value:=t7
 bq (binV Tryz.prog .add 9 (.tmp 49) (.const (Value.string (ByteArray.mk #[32]))) t49 (Value.string (ByteArray.mk #[32])) h) fun t50 =>
 let t7:Value:=t50
 K4_16 t0 t1 t5 t7 t8 t9 h Q)
 (K4_16 t0 t1 t5 t7 t8 t9 h Q))
theorem X4_10_eq (t0 t1 t5 t7 t8 t9 t10:Value) (h:AH) (Q:RQ):X4_10 t0 t1 t5 t7 t8 t9 t10 h Q=wpC Tryz.prog L4 (cAt code4 (.r::.r::.r::.r::.r::Dir.l::.r::Dir.i::Dir.i::.r::Dir.l::Dir.i::Dir.l::.r::Dir.i::Dir.i::[])) (mkA 123 [(0,t0),(1,t1),(5,t5),(7,t7),(8,t8),(9,t9),(10,t10)]) h (ctxAt Tryz.prog L4 code4 (.r::.r::.r::.r::.r::Dir.l::.r::Dir.i::Dir.i::.r::Dir.l::Dir.i::Dir.l::.r::Dir.i::Dir.i::[]) (retK Tryz.prog res4 Q)):=by kernel_rfl
theorem X4_10_ok {t0 t1 t5 t7 t8 t9 t10:Value} {h:AH} {Q:RQ} (H:X4_10 t0 t1 t5 t7 t8 t9 t10 h Q):H4_10 t0 t1 t5 t7 t8 t9 t10 h Q:=HL.step (L:=L4) ((X4_10_eq t0 t1 t5 t7 t8 t9 t10 h Q).mp H)
noncomputable def X4_7 (t0 t1 t5 t7 t8 t9:Value) (h:AH) (Q:RQ):Prop :=
 let t21:Value:=t9
 let t22:Value:=t0
 bq (lenL t22) fun t23 =>
 bq (binV Tryz.prog .lss 3 (.tmp 21) (.tmp 23) t21 t23 h) fun t24 =>
 let t25:Value:=t24
 guardQ t25 true h (fun k=>k t9 h) fun t26 h =>
 guardQ t25 true h (fun k=>bq (binV Tryz.prog .lss 3 (.tmp 26) (.const (Value.int .i64 256)) t26 (Value.int .i64 256) h) fun v=>k v h) fun t27 h =>
 bq (pickV t25 t27 (Value.bool false)) fun t28 =>
 condP (some t28)
 (let t10:Value:=(Value.int .i64 0)
 H4_10 t0 t1 t5 t7 t8 t9 t10 h Q)
 (let t65:Value:=t0
 bq (lenL t65) fun t66 =>
 bq (binV Tryz.prog .eql 3 (.tmp 66) (.const (Value.int .i64 0)) t66 (Value.int .i64 0) h) fun t67 =>
 condP (some t67)
 (let t4:Value:=(Value.bool true)
 Q (.ret t4) h)
 (let t68:Value:=t5
 let t69:Value:=t7
 HC Tryz.prog 8 (([]:List Value)++[t68,(Value.string (ByteArray.mk #[48])),t69]++([]:List Value)).toArray h (resK (fun t70 h =>
 let t11:Value:=t70
 let t12:Value:=(Value.slice none 0 0)
 let t13:Value:=(Value.int .i64 0)
 H4_24 t0 t1 t5 t8 t11 t12 t13 h Q) (fun v h=>Q (.pan v) h))))
theorem X4_7_eq (t0 t1 t5 t7 t8 t9:Value) (h:AH) (Q:RQ):X4_7 t0 t1 t5 t7 t8 t9 h Q=wpC Tryz.prog L4 (cAt code4 [.r,.r,.r,.r,.r,.l,.r,.i,.i]) (mkA 123 [(0,t0),(1,t1),(5,t5),(7,t7),(8,t8),(9,t9)]) h (ctxAt Tryz.prog L4 code4 [.r,.r,.r,.r,.r,.l,.r,.i,.i] (retK Tryz.prog res4 Q)):=by kernel_rfl
theorem X4_7_ok {t0 t1 t5 t7 t8 t9:Value} {h:AH} {Q:RQ} (H:X4_7 t0 t1 t5 t7 t8 t9 h Q):H4_7 t0 t1 t5 t7 t8 t9 h Q:=HL.step (L:=L4) ((X4_7_eq t0 t1 t5 t7 t8 t9 h Q).mp H)
noncomputable def X4 (t0 t1:Value) (h:AH) (Q:RQ):Prop :=
 let t4:Value:=(Value.bool false)
 HC Tryz.prog 12 (([]:List Value)++[]++([]:List Value)).toArray h (resK (fun t15 h =>
 bq (unV Tryz.prog .not t15) fun t16 =>
 condP (some t16)
 (let t4:Value:=(Value.bool false)
 Q (.ret t4) h)
 (HC Tryz.prog 7 (([]:List Value)++[(Value.string (ByteArray.mk #[109,97,112,32,123,32,101,97,99,104,32,119,32,105,110,32,118,97,108,117,101,32,98,121,32,34,32,34,32,123,32,101,109,105,116,32,119,44,32,34,49,34,59,32,125,32,125,32,114,101,100,117,99,101,32,123,32,101,109,105,116,32,107,101,121,44,32,116,101,120,116,40,115,117,109,40,118,97,108,117,101,115,41,41,59,32,125]))]++([]:List Value)).toArray h (resK (fun t18 h =>
 let t17:Value:=t18
 bq (opExtract t17 0) fun t19 =>
 bq (opExtract t17 1) fun t20 =>
 (fun t6 h =>
 let t5:Value:=t19
 bq (stN 2 h t6 t20) fun h=>(fun _ h =>
 let t7:Value:=(Value.string (ByteArray.mk #[]))
 let t8:Value:=(Value.int .i64 0)
 let t9:Value:=(Value.int .i64 0)
 H4_7 t0 t1 t5 t7 t8 t9 h Q) undef h) (opNew h 25 #[(Value.int .i64 0),(Value.int .i64 0)]).1 (opNew h 25 #[(Value.int .i64 0),(Value.int .i64 0)]).2) (fun v h=>Q (.pan v) h)))) (fun v h=>Q (.pan v) h))
theorem X4_eq (t0 t1:Value) (h:AH) (Q:RQ):X4 t0 t1 h Q=wpC Tryz.prog L4 code4 (argA [t0,t1] Tryz.f4.ntmps) h (retK Tryz.prog res4 Q):=by kernel_rfl
theorem X4_body:Tryz.f4.body=some code4:=by kernel_rfl
theorem X4_ok {t0 t1:Value} {h:AH} {Q:RQ} (H:X4 t0 t1 h Q):HC Tryz.prog 4 [t0,t1].toArray h Q:=HC.body Tryz.func4 X4_body ((X4_eq t0 t1 h Q).mp H)
noncomputable def code12:Code:=match Tryz.f12.body with | some c=>c | none=>.skip
noncomputable def res12:List ResultVar:=Tryz.f12.results.toList
def L12:Nat→Option (List Nat):=fun r=>none
noncomputable def X12 (h:AH) (Q:RQ):Prop :=
 let t0:Value:=(Value.bool false)
 HC Tryz.prog 7 (([]:List Value)++[(Value.string (ByteArray.mk #[109,97,112,32,123,32,101,97,99,104,32,119,32,105,110,32,118,97,108,117,101,32,98,121,32,34,32,34,32,123,32,101,109,105,116,32,119,44,32,34,49,34,59,32,125,32,125,32,114,101,100,117,99,101,32,123,32,101,109,105,116,32,107,101,121,44,32,116,101,120,116,40,115,117,109,40,118,97,108,117,101,115,41,41,59,32,125]))]++([]:List Value)).toArray h (resK (fun t6 h =>
 let t5:Value:=t6
 bq (opExtract t5 0) fun t7 =>
 bq (opExtract t5 1) fun t8 =>
 (fun t2 h =>
 let t1:Value:=t7
 bq (stN 2 h t2 t8) fun h=>(fun _ h =>
 let t9:Value:=t1
 HC Tryz.prog 8 (([]:List Value)++[t9,(Value.string (ByteArray.mk #[])),(Value.string (ByteArray.mk #[97,32,98]))]++([]:List Value)).toArray h (resK (fun t10 h =>
 let t3:Value:=t10
 let t11:Value:=t1
 bq (bs 9 #[(Value.string (ByteArray.mk #[])),(Value.string (ByteArray.mk #[]))] 2 h [(0,1,(Value.string (ByteArray.mk #[49]))),(1,1,(Value.string (ByteArray.mk #[49])))]) fun r=>(fun t12 h =>
 HC Tryz.prog 13 (([]:List Value)++[t11,(Value.string (ByteArray.mk #[97])),t12]++([]:List Value)).toArray h (resK (fun t13 h =>
 let t4:Value:=t13
 let t14:Value:=t3
 bq (lenL t14) fun t15 =>
 bq (binV Tryz.prog .eql 3 (.tmp 15) (.const (Value.int .i64 2)) t15 (Value.int .i64 2) h) fun t16 =>
 let t17:Value:=t16
 guardQ t17 true h (fun k=>k t3 h) fun t18 h =>
 guardQ t17 true h (fun k=>bq (ia 2 t18 (Value.int .i64 1)) fun v=>k v h) fun t19 h =>
 guardQ t17 true h (fun k=>bq (ldN 2 h t19) fun v=>k v h) fun t20 h =>
 guardQ t17 true h (fun k=>bq (bd #[(Value.string (ByteArray.mk #[])),(Value.string (ByteArray.mk #[]))] [(0,1,(Value.string (ByteArray.mk #[98]))),(1,1,(Value.string (ByteArray.mk #[49])))]) fun v=>k v h) fun t21 h =>
 guardQ t17 true h (fun k=>bq (binV Tryz.prog .eql 40 (.tmp 20) (.tmp 21) t20 t21 h) fun v=>k v h) fun t22 h =>
 bq (pickV t17 t22 (Value.bool false)) fun t23 =>
 let t24:Value:=t23
 guardQ t24 true h (fun k=>k t4 h) fun t25 h =>
 guardQ t24 true h (fun k=>bq (lenL t25) fun v=>k v h) fun t26 h =>
 guardQ t24 true h (fun k=>bq (binV Tryz.prog .eql 3 (.tmp 26) (.const (Value.int .i64 1)) t26 (Value.int .i64 1) h) fun v=>k v h) fun t27 h =>
 bq (pickV t24 t27 (Value.bool false)) fun t28 =>
 let t29:Value:=t28
 guardQ t29 true h (fun k=>k t4 h) fun t30 h =>
 guardQ t29 true h (fun k=>bq (ia 2 t30 (Value.int .i64 0)) fun v=>k v h) fun t31 h =>
 guardQ t29 true h (fun k=>bq (ldN 2 h t31) fun v=>k v h) fun t32 h =>
 guardQ t29 true h (fun k=>bq (bd #[(Value.string (ByteArray.mk #[])),(Value.string (ByteArray.mk #[]))] [(0,1,(Value.string (ByteArray.mk #[97]))),(1,1,(Value.string (ByteArray.mk #[50])))]) fun v=>k v h) fun t33 h =>
 guardQ t29 true h (fun k=>bq (binV Tryz.prog .eql 40 (.tmp 32) (.tmp 33) t32 t33 h) fun v=>k v h) fun t34 h =>
 bq (pickV t29 t34 (Value.bool false)) fun t35 =>
 let t0:Value:=t35
 Q (.ret t0) h) (fun v h=>Q (.pan v) h))) r.1 r.2) (fun v h=>Q (.pan v) h))) undef h) (opNew h 25 #[(Value.int .i64 0),(Value.int .i64 0)]).1 (opNew h 25 #[(Value.int .i64 0),(Value.int .i64 0)]).2) (fun v h=>Q (.pan v) h))
theorem X12_eq (h:AH) (Q:RQ):X12  h Q=wpC Tryz.prog L12 code12 (argA [] Tryz.f12.ntmps) h (retK Tryz.prog res12 Q):=by kernel_rfl
theorem X12_body:Tryz.f12.body=some code12:=by kernel_rfl
theorem X12_ok {h:AH} {Q:RQ} (H:X12  h Q):HC Tryz.prog 12 [].toArray h Q:=HC.body Tryz.func12 X12_body ((X12_eq  h Q).mp H)
noncomputable def code14:Code:=match Tryz.f14.body with | some c=>c | none=>.skip
noncomputable def res14:List ResultVar:=Tryz.f14.results.toList
def L14:Nat→Option (List Nat):=fun r=>none
noncomputable def X14 (t0:Value) (h:AH) (Q:RQ):Prop :=
 let t2:Value:=(Value.string (ByteArray.mk #[]))
 let t3:Value:=t0
 bq (binV Tryz.prog .lss 3 (.tmp 3) (.const (Value.int .i64 0)) t3 (Value.int .i64 0) h) fun t4 =>
 condP (some t4)
 (let t5:Value:=t0
 bq (unV Tryz.prog .neg t5) fun t6 =>
 HC Tryz.prog 14 (([]:List Value)++[t6]++([]:List Value)).toArray h (resK (fun t7 h =>
 bq (binV Tryz.prog .add 9 (.const (Value.string (ByteArray.mk #[45]))) (.tmp 7) (Value.string (ByteArray.mk #[45])) t7 h) fun t8 =>
 let t2:Value:=t8
 Q (.ret t2) h) (fun v h=>Q (.pan v) h)))
 (let t9:Value:=t0
 bq (binV Tryz.prog .lss 3 (.tmp 9) (.const (Value.int .i64 10)) t9 (Value.int .i64 10) h) fun t10 =>
 condP (some t10)
 (let t11:Value:=t0
 bq (binV Tryz.prog .add 3 (.const (Value.int .i64 48)) (.tmp 11) (Value.int .i64 48) t11 h) fun t12 =>
 bq (convV Tryz.prog 3 5 t12 h) fun r=>(fun t13 h =>
 bq (bs 5 #[(Value.int .u8 0)] 1 h [(0,1,t13)]) fun r=>(fun t14 h =>
 bq (convV Tryz.prog 80 9 t14 h) fun r=>(fun t15 h =>
 let t2:Value:=t15
 Q (.ret t2) h) r.1 r.2) r.1 r.2) r.1 r.2)
 ((let t16:Value:=t0
 bq (binV Tryz.prog .quo 3 (.tmp 16) (.const (Value.int .i64 10)) t16 (Value.int .i64 10) h) fun t17=>(exP Tryz.prog 14 (([]:List Value)++[t17]++([]:List Value)).toArray h fun t18 g=>g=h∧((let t19:Value:=t0
 bq (binV Tryz.prog .rem 3 (.tmp 19) (.const (Value.int .i64 10)) t19 (Value.int .i64 10) h) fun t20=>(bq (binV Tryz.prog .add 3 (.const (Value.int .i64 48)) (.tmp 20) (Value.int .i64 48) t20 h) fun t21=>(bq (convV Tryz.prog 3 5 t21 h) fun r=>(fun t22 h5_6=>(bq (bs 5 #[(Value.int .u8 0)] 1 h5_6 [(0,1,t22)]) fun r=>(fun t23 h5_7=>(bq (convV Tryz.prog 80 9 t23 h5_7) fun r=>(fun t24 h5_8=>(bq (binV Tryz.prog .add 9 (.tmp 18) (.tmp 24) t18 t24 h5_8) fun t25=>((let t2:Value:=t25
 ((bq (binV Tryz.prog .quo 3 (.tmp 16) (.const (Value.int .i64 10)) t16 (Value.int .i64 10) h5_7) fun v=>(v=t17∧h5_7=h5_7)) ∧
 (exP Tryz.prog 14 (([]:List Value)++[t17]++([]:List Value)).toArray h5_7 fun v g=>g=h5_7∧(v=t18∧h5_7=h5_7)) ∧
 True) ∧
 (fun h =>
 Q (.ret t2) h) h5_8)))) r.1 r.2)) r.1 r.2)) r.1 r.2))))))))
theorem X14_eq (t0:Value) (h:AH) (Q:RQ):X14 t0 h Q=wpC Tryz.prog L14 code14 (argA [t0] Tryz.f14.ntmps) h (retK Tryz.prog res14 Q):=by kernel_rfl
theorem X14_body:Tryz.f14.body=some code14:=by kernel_rfl
theorem X14_ok {t0:Value} {h:AH} {Q:RQ} (H:X14 t0 h Q):HC Tryz.prog 14 [t0].toArray h Q:=HC.body Tryz.func14 X14_body ((X14_eq t0 h Q).mp H)
end Go.Proofs.YtibigfkeaemanaaGreatDoor.X
end
section
namespace Go.Proofs.YtibigfkeaemanaaGreatDoor.L
open Go.Ab Go.Lang Go.Proofs.YtibigfkeaemanaaGreatDoor.X
set_option maxRecDepth 100000
theorem dig_wrap {k:Nat} (hk:k < 10):IntKind.u8.wrap (48 + (k:Int))=(((UInt8.ofNat (48 + k)).toNat:Nat):Int):=by
 rw [wrap8 (by omega) (by omega),u8_of hk];omega
theorem text_nat:∀ (n:Nat),n ≤ 1152921504606846976→∀ h:AH,Ex Tryz.prog 14 [.int .i64 (n:Int)].toArray h (.string ⟨(Lib.decDigits n).toArray⟩) h:=by
 intro n
 induction n using Nat.strongRecOn with
 | _ n ih =>
  intro hn h
  refine Ex.pureF (.string _) (X14_ok ?_)
  unfold X14
  have e0:¬ ((n:Int) < 0):=by omega
  by_cases h10:n < 10
  ·have e1:(n:Int) < 10:=by omega
   rw [Lib.decDigits,dif_pos h10]
   have ed:=dig_wrap h10
   have ew:IntKind.i64.wrap (48 + (n:Int))=48 + (n:Int):=wrap64 (by omega) (by omega)
   have eb:=b2s_row (h:=h.push (.cells (encB [UInt8.ofNat (48 + n)]).toArray 5 (0,0)) none) (k:=h.size) (l:=[UInt8.ofNat (48 + n)]) (get_push_eq rfl)
   have ec:(encB [UInt8.ofNat (48 + n)]).toArray = #[.int .u8 ((UInt8.ofNat (48 + n)).toNat:Nat)]:=rfl
   rw [ec] at eb
   simp (disch:=(first | exact dz | fail)) only [e0,e1,ew,ed,eb,SXB,SX,reduceIte,Int.reduceLT,Int.reduceLE,Int.reduceToNat,Int.reduceBEq,Int.reduceBNe,Nat.reduceAdd,Nat.reduceMul,Nat.reduceSub,Nat.reduceLeDiff]
   exact bq_of eb ⟨rfl,by (repeat (first | exact Kp.refl _ _ | assumption | refine Kp.push ?_ _ _ (by first | omega | (simp only [sz_push,sz_put];omega)) | refine Kp.put ?_ _ _ (by first | omega | (simp only [sz_push,sz_put];omega))))⟩
  ·have e1:¬ ((n:Int) < 10):=by omega
   have eq:IntKind.i64.wrap ((n:Int).tdiv 10)=((n / 10:Nat):Int):=by
    have:(n:Int).tdiv 10=((n / 10:Nat):Int):=rfl
    rw [this];exact wrap64 (by omega) (by omega)
   have em:(n:Int).tmod 10=((n % 10:Nat):Int):=rfl
   have h10':(10:Int) ≠ 0:=by omega
   simp (disch:=(first | exact dz | fail)) only [e0,e1,eq,em,h10',SXB,SX,reduceIte,Int.reduceLT,Int.reduceLE,Int.reduceToNat,Int.reduceBEq,Int.reduceBNe,Nat.reduceAdd,Nat.reduceMul,Nat.reduceSub,Nat.reduceLeDiff]
   have hm:n % 10 < 10:=Nat.mod_lt _ (by omega)
   have hlen:(Lib.decDigits (n / 10)).length ≤ 20:=by
    have:=dec_len 19 (n / 10) (by omega)
    omega
   refine exP_of (ih (n / 10) (by omega) (by omega) h) ⟨rfl,?_⟩
   rw [dig_wrap hm]
   have eb:=b2s_row (h:=h.push (.cells (encB [UInt8.ofNat (48 + n % 10)]).toArray 5 (0,0)) none) (k:=h.size) (l:=[UInt8.ofNat (48 + n % 10)]) (get_push_eq rfl)
   refine bq_of eb ?_
   have hcat:(ByteArray.mk (Lib.decDigits (n / 10)).toArray++ByteArray.mk #[UInt8.ofNat (48 + n % 10)])=⟨(Lib.decDigits n).toArray⟩:=by
    have hd:Lib.decDigits n=Lib.decDigits (n / 10)++[UInt8.ofNat (48 + n % 10)]:=by
     conv=>lhs;rw [Lib.decDigits,dif_neg h10]
    rw [hd]
    refine ByteArray.ext ?_
    simp
   have hsz:(ByteArray.mk (Lib.decDigits (n / 10)).toArray).size + (ByteArray.mk [UInt8.ofNat (48 + n % 10)].toArray).size ≤ 9223372036854775807:=by
    rw [mk_sz,mk_sz];simp;omega
   refine bq_of (bin_add_9 hsz) ⟨?_,?_,?_⟩
   ·exact exP_of (ih (n / 10) (by omega) (by omega) _) ⟨rfl,rfl⟩
   ·show Res.ret (.string (ByteArray.mk (Lib.decDigits (n / 10)).toArray++ByteArray.mk #[UInt8.ofNat (48 + n % 10)]))=_
    rw [hcat]
   ·(repeat (first | exact Kp.refl _ _ | assumption | refine Kp.push ?_ _ _ (by first | omega | (simp only [sz_push,sz_put];omega)) | refine Kp.put ?_ _ _ (by first | omega | (simp only [sz_push,sz_put];omega))))
theorem text_ok (n:Int) (h1:-1152921504606846976 ≤ n) (h2:n ≤ 1152921504606846976) (h:AH):Ex Tryz.prog 14 [.int .i64 n].toArray h (.string (itoaB n)) h:=by
 by_cases h0:n < 0
 ·refine X14_ok ?_
  unfold X14
  have e:IntKind.i64.wrap (0 - n)=((n.natAbs:Nat):Int):=(wrap64 (by omega) (by omega)).trans (by omega)
  simp (disch:=(first | exact dz | fail)) only [h0,un_neg,e,SXB,SX,reduceIte,Int.reduceLT,Int.reduceLE,Int.reduceToNat,Int.reduceBEq,Int.reduceBNe,Nat.reduceAdd,Nat.reduceMul,Nat.reduceSub,Nat.reduceLeDiff]
  refine HC.exact (text_nat n.natAbs (by omega) h) ?_
  have hlen:(Lib.decDigits n.natAbs).length ≤ 20:=by
   have:=dec_len 19 n.natAbs (by omega)
   omega
  have hsz:(ByteArray.mk #[45]).size + (ByteArray.mk (Lib.decDigits n.natAbs).toArray).size ≤ 9223372036854775807:=by
   have:(ByteArray.mk #[45]).size=1:=rfl
   have e1:=mk_sz (l:=Lib.decDigits n.natAbs)
   omega
  refine bq_of (bin_add_9 hsz) ⟨?_,rfl⟩
  have hcat:(ByteArray.mk #[45]++ByteArray.mk (Lib.decDigits n.natAbs).toArray)=itoaB n:=by
   unfold itoaB Lib.itoa
   rw [if_pos h0]
   refine ByteArray.ext ?_
   simp
  rw [hcat]
 ·have:=text_nat n.toNat (by omega) h
  have e:((n.toNat:Nat):Int)=n:=by omega
  rw [e] at this
  have e2:(ByteArray.mk (Lib.decDigits n.toNat).toArray)=itoaB n:=by
   unfold itoaB Lib.itoa
   rw [if_neg h0]
  rw [e2] at this
  exact this
end Go.Proofs.YtibigfkeaemanaaGreatDoor.L
end
section
namespace Go.Proofs.YtibigfkeaemanaaGreatDoor.L
open Go.Ab Go.Lang Go.Proofs.YtibigfkeaemanaaGreatDoor.X
set_option maxRecDepth 100000
structure SC (h h1:AH) (c:Array Value) (toks:List Tok) (tv:Value):Prop where
 err:h1.get h.size=some (.cells #[.int .i64 0,.int .i64 0] 25 (0,0),none)
 tok:h1.get (h.size + 1)=some (.cells c 55 (0,0),none)
 csz:c.size=3
 out:Hld 55 3 h1 (h.size + 2) tv (toks.map encT)
 lt:∀ k,blkOf tv=some k→k < h1.size
 size:h.size + 2 ≤ h1.size
 K:Kp h.size h h1
theorem SC.keep {h h1 h2:AH} {c:Array Value} {toks:List Tok} {tv:Value} (x:SC h h1 c toks tv) (K:Kp h1.size h1 h2):SC h h2 c toks tv:=by
 have hs:=x.size
 exact ⟨(K.get _ (by omega)).trans x.err,(K.get _ (by omega)).trans x.tok,x.csz,x.out.mono fun k hk=>K.get k (x.lt k hk),fun k hk=>Nat.lt_of_lt_of_le (x.lt k hk) K.size,Nat.le_trans hs K.size,⟨Nat.le_trans x.K.size K.size,fun k hk=>(K.get k (by omega)).trans (x.K.get k hk)⟩⟩
theorem SC.put {h h1:AH} {c c':Array Value} {toks:List Tok} {tv:Value} (x:SC h h1 c toks tv) (hc:c'.size=3):SC h (h1.put (h.size + 1) (some (.cells c' 55 (0,0),none))) c' toks tv:=by
 have hs:=x.size
 refine ⟨by rw [get_put_ne (by omega)];exact x.err,get_put_eq rfl,hc,x.out.mono fun k hk=>get_put_ne (by have:=x.out.key k hk;omega),fun k hk=>by rw [sz_put];exact x.lt k hk,by rw [sz_put];exact hs,?_⟩
 have K:=x.K
 (repeat (first | exact Kp.refl _ _ | assumption | refine Kp.push ?_ _ _ (by first | omega | (simp only [sz_push,sz_put];omega)) | refine Kp.put ?_ _ _ (by first | omega | (simp only [sz_push,sz_put];omega))))
def SPf (Q:RQ) (h:AH) (toks:List Tok) (rs:Except Nat (List Tok)):Prop:=match rs with
 | .ok l=>∀ h' v,Kp h.size h h'→Hld 55 3 h' (h.size + 2) v ((toks++l).map encT)→(∀ k,blkOf v=some k→k < h'.size)→Q (.ret (.tuple #[v,.agg #[.int .i64 0,.int .i64 0]])) h'
 | .error j=>∀ h',Kp h.size h h'→Q (.ret (.tuple #[.slice none 0 0,.agg #[.int .i64 160,.int .i64 (j:Nat)]])) h'
theorem scan_bad {h h1:AH} {c:Array Value} {toks:List Tok} {s:ByteArray} {tv:Value} {i:Nat} {Q:RQ} (x:SC h h1 c toks tv) (hq:SPf Q h toks (.error i)) :
  G15_31 (.string s) (.pointer (some ⟨h.size,0,none⟩)) tv (.int .i64 i) (.pointer (some ⟨h.size + 1,0,none⟩)) h1 Q:=by
 refine G15_31_ok (XS15_31_ok ?_)
 unfold XS15_31
 have e:=x.err
 have e7:bdF #[.int .i64 0,.int .i64 0] [(0,1,.int .i64 160),(1,1,.int .i64 (i:Nat))]=some #[.int .i64 160,.int .i64 (i:Nat)]:=by rfl
 generalize hs2:stN 2=s2
 generalize hl2:ldN 2=l2
 simp (disch:=(first | exact dz | fail)) only [e,e7,SXB,SX,reduceIte,Int.reduceLT,Int.reduceLE,Int.reduceToNat,Int.reduceBEq,Int.reduceBNe,Nat.reduceAdd,Nat.reduceMul,Nat.reduceSub,Nat.reduceLeDiff]
 subst hs2 hl2
 refine bq_of (stN_full x.err rfl rfl (fun z hz=>by simp [Value.cells] at hz;rcases hz with rfl | rfl <;> rfl)) ?_
 rw [ldN_full (n:=2) (get_put_eq rfl) rfl]
 simp (disch:=(first | exact dz | fail)) only [SXB,SX,reduceIte,Int.reduceLT,Int.reduceLE,Int.reduceToNat,Int.reduceBEq,Int.reduceBNe,Nat.reduceAdd,Nat.reduceMul,Nat.reduceSub,Nat.reduceLeDiff]
 refine hq _ ?_
 have K:=x.K
 have hs:=x.size
 (repeat (first | exact Kp.refl _ _ | assumption | refine Kp.push ?_ _ _ (by first | omega | (simp only [sz_push,sz_put];omega)) | refine Kp.put ?_ _ _ (by first | omega | (simp only [sz_push,sz_put];omega))))
theorem tok_done {h h1:AH} {toks:List Tok} {s:ByteArray} {tv:Value} {t:Tok} {k:Nat} {Q:RQ} (x:SC h h1 #[.int .i64 t.cls,.int .i64 t.at_,.string t.text] toks tv) (ht:toks.length ≤ 5000)
  (next:∀ h2 c2 tv2,SC h h2 c2 (toks++[t]) tv2→H15_5 (.string s) (.pointer (some ⟨h.size,0,none⟩)) tv2 (.int .i64 k) (.pointer (some ⟨h.size + 1,0,none⟩)) h2 Q) :
  K15_29 (.string s) (.pointer (some ⟨h.size,0,none⟩)) tv (.int .i64 k) (.pointer (some ⟨h.size + 1,0,none⟩)) h1 Q:=by
 refine X15_29_ok ?_
 unfold X15_29
 have hs:=x.size
 rw [ldN_full (n:=3) x.tok rfl]
 rw [bq_some,bs_one (e:=55) (n:=3) rfl rfl,bq_some]
 have hl:(toks.map encT).length=toks.length:=by simp
 obtain ⟨s',h2,q1,q2,q3,q4,q5⟩:=x.out.append1 (v:=encT t) (c:=#[.int .i64 t.cls,.int .i64 t.at_,.string t.text]) (bytes:=32) (zero:=.agg #[.int .i64 0,.int .i64 0,.string ⟨#[]⟩]) rfl x.lt hs (fun v hv=>by
  obtain ⟨d,_,rfl⟩:=List.mem_map.1 hv;rfl) rfl (fun z hz=>by simp at hz;rcases hz with rfl | rfl | rfl <;> rfl) (by omega) (by omega) (by omega) rfl (by omega)
 refine bq_of q1 ?_
 refine G15_5_ok (XS15_5_ok ?_)
 unfold XS15_5
 have g:∀ k,k < h.size + 2→h2.get k=h1.get k:=fun k hk=>q4 k (by omega) fun e=>by have:=x.out.key k e;omega
 refine next h2 _ s' ⟨(g _ (by omega)).trans x.err,(g _ (by omega)).trans x.tok,rfl,by rw [List.map_append];exact q2,fun k hk=>?_,Nat.le_trans hs q3,⟨Nat.le_trans x.K.size q3,fun k hk=>(g k (by omega)).trans (x.K.get k hk)⟩⟩
 rcases q5 with e | ⟨k',e,h1,h3⟩
 ·rw [e] at hk;exact Nat.lt_of_lt_of_le (x.lt k hk) q3
 ·rw [e] at hk;cases hk;exact h3
end Go.Proofs.YtibigfkeaemanaaGreatDoor.L
end
section
namespace Go.Proofs.YtibigfkeaemanaaGreatDoor.L
open Go.Ab Go.Lang Go.Proofs.YtibigfkeaemanaaGreatDoor.X
set_option maxRecDepth 100000
theorem flat_bound {P:Program} {n y:Nat} {c:BoundsCode} (h:n ≤ y):flat P (Instr.sliceBound (.int .i64 (n:Int)) y c)=some n:=by
 unfold Instr.sliceBound
 rw [flat_bind]
 show (flat P (pure (IntKind.i64,(n:Int)):Sem (IntKind × Int))).bind _=_
 rw [flat_pure,Option.bind_some]
 show flat P (if 0 ≤ (n:Int)∧(n:Int) ≤ y then _ else _)=_
 rw [if_pos ⟨by omega,by omega⟩]
 rfl
theorem sub_str {P:Program} {t:TypeId} {h:AH} {s:ByteArray} {i k:Nat} (hu:P.underlying t=some .string) (h1:i ≤ k) (h2:k ≤ s.size):sliceV P h t (.string s) (some (.int .i64 i)) (some (.int .i64 k))=some (.string (s.extract i k)):=by
 have e:flat P (Instr.sliceAt t (.string s) (some (.int .i64 i)) (some (.int .i64 k)) none)=some (.string (s.extract i k)):=by
  unfold Instr.sliceAt
  rw [flat_bind,flat_und hu,Option.bind_some]
  show flat P (Instr.slice t (.string s) (some (.int .i64 i)) (some (.int .i64 k)) none)=_
  unfold Instr.slice
  rw [flat_bind,flat_und hu,Option.bind_some]
  show flat P (Instr.sliceBounds false s.size s.size (some (.int .i64 i)) (some (.int .i64 k)) none >>= _)=_
  rw [flat_bind]
  have e2:flat P (Instr.sliceBounds false s.size s.size (some (.int .i64 i)) (some (.int .i64 k)) none)=some (i,k,s.size):=by
   unfold Instr.sliceBounds
   rw [flat_bind,flat_pure,Option.bind_some]
   show flat P (Instr.sliceBound (.int .i64 k) s.size _ >>= _)=_
   rw [flat_bind,flat_bound h2,Option.bind_some]
   show flat P (Instr.sliceBound (.int .i64 i) k _ >>= _)=_
   rw [flat_bind,flat_bound h1,Option.bind_some]
   rfl
  rw [e2]
  rfl
 have e3:flatV P (Instr.sliceAt t (.string s) (some (.int .i64 i)) (some (.int .i64 k)) none)=some (.string (s.extract i k)):=by
  unfold flatV
  rw [e]
  rfl
 exact e3
theorem tok_cut {h h1:AH} {toks:List Tok} {s:ByteArray} {tv:Value} {cls:Nat} {x y:Value} {i k:Nat} {Q:RQ} (X:SC h h1 #[.int .i64 (cls:Nat),.int .i64 (i:Nat),.string ⟨#[]⟩] toks tv) (ht:toks.length ≤ 5000) (hc:cls ≠ 3) (h1k:i ≤ k) (h2k:k ≤ s.size)
  (next:∀ h2 c2 tv2,SC h h2 c2 (toks++[⟨cls,i,s.extract i k⟩]) tv2→H15_5 (.string s) (.pointer (some ⟨h.size,0,none⟩)) tv2 (.int .i64 k) (.pointer (some ⟨h.size + 1,0,none⟩)) h2 Q) :
  K15_27 (.string s) (.pointer (some ⟨h.size,0,none⟩)) tv (.int .i64 i) (.int .i64 k) (.pointer (some ⟨h.size + 1,0,none⟩)) h1 Q:=by
 refine X15_27_ok ?_
 unfold X15_27
 have e:=X.tok
 have e1:((cls:Int) != 3)=true:=by simp;omega
 have e2:=sub_str (P:=Tryz.prog) (t:=9) (h:=h1) (s:=s) (by kernel_rfl) h1k h2k
 simp (disch:=(first | exact dz | fail)) only [e,e1,e2,SXB,SX,reduceIte,Int.reduceLT,Int.reduceLE,Int.reduceToNat,Int.reduceBEq,Int.reduceBNe,Nat.reduceAdd,Nat.reduceMul,Nat.reduceSub,Nat.reduceLeDiff]
 exact tok_done (t:=⟨cls,i,s.extract i k⟩) (X.put rfl) ht next
end Go.Proofs.YtibigfkeaemanaaGreatDoor.L
end
