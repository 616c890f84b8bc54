import Derived.KernelRfl
import Derived.Test.YtibigfkeaemanaaGreatDoorProg
import Derived.Test.YtibigfkeaemanaaGreatDoorZ14
import Derived.Test.YtibigfkeaemanaaGreatDoorZ26
set_option linter.unusedVariables false
set_option linter.unusedSimpArgs false
section
namespace Go.Proofs.YtibigfkeaemanaaGreatDoor.X
open Go.Ab
set_option maxRecDepth 100000
noncomputable def code48:Code:=match Tryz.f48.body with | some c=>c | none=>.skip
noncomputable def res48:List ResultVar:=Tryz.f48.results.toList
def L48:Nat→Option (List Nat):=fun r=>if r=4 then some [0,2,3] else if r=30 then some [0,2,3,4,87] else if r=38 then some [0,2,4] else if r=39 then some [2,4] else none
noncomputable def J48_4 (t0 t2 t3:Value) (h:AH) (Q:RQ):Prop:=wpC Tryz.prog L48 (cAt code48 [.r,.r,.r]) (mkA 119 [(0,t0),(2,t2),(3,t3)]) h (ctxAt Tryz.prog L48 code48 [.r,.r,.r] (retK Tryz.prog res48 Q))
noncomputable def K48_4 (t0 t2 t3:Value) (h:AH) (Q:RQ):Prop:=(ctxAt Tryz.prog L48 code48 [.r,.r,.l] (retK Tryz.prog res48 Q)) .normal (mkA 119 [(0,t0),(2,t2),(3,t3)]) h
theorem K48_4_eq (t0 t2 t3:Value) (h:AH) (Q:RQ):J48_4 t0 t2 t3 h Q=K48_4 t0 t2 t3 h Q:=join_eq (p:=[.r,.r]) (code:=code48) (by kernel_rfl) (by kernel_rfl)
noncomputable def J48_39 (t2 t4:Value) (h:AH) (Q:RQ):Prop:=wpC Tryz.prog L48 (cAt code48 [.r,.r,.r,.r,.r]) (mkA 119 [(2,t2),(4,t4)]) h (ctxAt Tryz.prog L48 code48 [.r,.r,.r,.r,.r] (retK Tryz.prog res48 Q))
noncomputable def K48_39 (t2 t4:Value) (h:AH) (Q:RQ):Prop:=(ctxAt Tryz.prog L48 code48 [.r,.r,.r,.r,.l] (retK Tryz.prog res48 Q)) .normal (mkA 119 [(2,t2),(4,t4)]) h
theorem K48_39_eq (t2 t4:Value) (h:AH) (Q:RQ):J48_39 t2 t4 h Q=K48_39 t2 t4 h Q:=join_eq (p:=[.r,.r,.r,.r]) (code:=code48) (by kernel_rfl) (by kernel_rfl)
noncomputable def J48_30 (t0 t2 t3 t4 t87:Value) (h:AH) (Q:RQ):Prop:=wpC Tryz.prog L48 (cAt code48 [.r,.r,.r,.r,.l,.r,.i,.r,.r,.r,.r,.r,.r,.r]) (mkA 119 [(0,t0),(2,t2),(3,t3),(4,t4),(87,t87)]) h (ctxAt Tryz.prog L48 code48 [.r,.r,.r,.r,.l,.r,.i,.r,.r,.r,.r,.r,.r,.r] (retK Tryz.prog res48 Q))
noncomputable def K48_30 (t0 t2 t3 t4 t87:Value) (h:AH) (Q:RQ):Prop:=(ctxAt Tryz.prog L48 code48 [.r,.r,.r,.r,.l,.r,.i,.r,.r,.r,.r,.r,.r,.l] (retK Tryz.prog res48 Q)) .normal (mkA 119 [(0,t0),(2,t2),(3,t3),(4,t4),(87,t87)]) h
theorem K48_30_eq (t0 t2 t3 t4 t87:Value) (h:AH) (Q:RQ):J48_30 t0 t2 t3 t4 t87 h Q=K48_30 t0 t2 t3 t4 t87 h Q:=join_eq (p:=[.r,.r,.r,.r,.l,.r,.i,.r,.r,.r,.r,.r,.r]) (code:=code48) (by kernel_rfl) (by kernel_rfl)
noncomputable def J48_38 (t0 t2 t4:Value) (h:AH) (Q:RQ):Prop:=wpC Tryz.prog L48 (cAt code48 (.r::.r::.r::.r::Dir.l::.r::Dir.i::.r::.r::.r::.r::.r::.r::.r::Dir.l::.r::.r::.r::.r::[])) (mkA 119 [(0,t0),(2,t2),(4,t4)]) h (ctxAt Tryz.prog L48 code48 (.r::.r::.r::.r::Dir.l::.r::Dir.i::.r::.r::.r::.r::.r::.r::.r::Dir.l::.r::.r::.r::.r::[]) (retK Tryz.prog res48 Q))
noncomputable def K48_38 (t0 t2 t4:Value) (h:AH) (Q:RQ):Prop:=(ctxAt Tryz.prog L48 code48 (.r::.r::.r::.r::Dir.l::.r::Dir.i::.r::.r::.r::.r::.r::.r::.r::Dir.l::.r::.r::.r::Dir.l::[]) (retK Tryz.prog res48 Q)) .normal (mkA 119 [(0,t0),(2,t2),(4,t4)]) h
theorem K48_38_eq (t0 t2 t4:Value) (h:AH) (Q:RQ):J48_38 t0 t2 t4 h Q=K48_38 t0 t2 t4 h Q:=join_eq (p:=(.r::.r::.r::.r::Dir.l::.r::Dir.i::.r::.r::.r::.r::.r::.r::.r::Dir.l::.r::.r::.r::[])) (code:=code48) (by kernel_rfl) (by kernel_rfl)
noncomputable def X48_38 (t0 t2 t4:Value) (h:AH) (Q:RQ):Prop :=
 let t111:Value:=t0
 bq (fa 1 1 t4) fun t112 =>
 bq (ld1 h t112) fun t113 =>
 bq (bd #[(Value.string (ByteArray.mk #[])),(Value.int .u8 0)] [(0,1,t113),(1,1,(Value.int .u8 116))]) fun t114 =>
 bq (bs 86 #[(Value.string (ByteArray.mk #[])),(Value.int .u8 0)] 1 h [(0,2,t114)]) fun r=>(fun t115 h =>
 HC Tryz.prog 29 (([]:List Value)++[t111,(Value.bool true),t115]++([]:List Value)).toArray h (resK (fun t116 h =>
 bq (fa 12 1 t4) fun t117 =>
 bq (stN 1 h t117 t116) fun h=>(fun _ h =>
 K48_39 t2 t4 h Q) undef h) (fun v h=>Q (.pan v) h))) r.1 r.2
theorem X48_38_eq (t0 t2 t4:Value) (h:AH) (Q:RQ):X48_38 t0 t2 t4 h Q=wpC Tryz.prog L48 (cAt code48 (.r::.r::.r::.r::Dir.l::.r::Dir.i::.r::.r::.r::.r::.r::.r::.r::Dir.l::.r::.r::.r::.r::[])) (mkA 119 [(0,t0),(2,t2),(4,t4)]) h (ctxAt Tryz.prog L48 code48 (.r::.r::.r::.r::Dir.l::.r::Dir.i::.r::.r::.r::.r::.r::.r::.r::Dir.l::.r::.r::.r::.r::[]) (retK Tryz.prog res48 Q)):=by kernel_rfl
theorem X48_38_ok {t0 t2 t4:Value} {h:AH} {Q:RQ} (H:X48_38 t0 t2 t4 h Q):K48_38 t0 t2 t4 h Q:=(K48_38_eq t0 t2 t4 h Q).mp (((X48_38_eq t0 t2 t4 h Q).mp H))
noncomputable def X48_30 (t0 t2 t3 t4 t87:Value) (h:AH) (Q:RQ):Prop :=
 condP (some t87)
 (let t90:Value:=t0
 HC Tryz.prog 31 (([]:List Value)++[t90]++([]:List Value)).toArray h (resK (fun t91 h =>
 let t92:Value:=t0
 HC Tryz.prog 59 (([]:List Value)++[t92]++([]:List Value)).toArray h (resK (fun t93 h =>
 bq (fa 1 1 t4) fun t94 =>
 bq (stN 1 h t94 t93) fun h=>(fun _ h =>
 let t95:Value:=t0
 HC Tryz.prog 28 (([]:List Value)++[t95,(Value.int .i64 1),(Value.string (ByteArray.mk #[105,110]))]++([]:List Value)).toArray h (resK (fun t96 h =>
 bq (fa 2 1 t3) fun t97 =>
 bq (ld1 h t97) fun t98 =>
 bq (binV Tryz.prog .eql 9 (.tmp 98) (.const (Value.string (ByteArray.mk #[102,111,114]))) t98 (Value.string (ByteArray.mk #[102,111,114])) h) fun t99 =>
 condP (some t99)
 (let t100:Value:=t0
 HC Tryz.prog 32 (([]:List Value)++[t100,(Value.int .u8 108)]++([]:List Value)).toArray h (resK (fun t101 h =>
 bq (fa 2 5 t4) fun t102 =>
 bq (stN 5 h t102 t101) fun h=>(fun _ h =>
 K48_38 t0 t2 t4 h Q) undef h) (fun v h=>Q (.pan v) h)))
 (let t103:Value:=t0
 HC Tryz.prog 32 (([]:List Value)++[t103,(Value.int .u8 116)]++([]:List Value)).toArray h (resK (fun t104 h =>
 bq (fa 2 5 t4) fun t105 =>
 bq (stN 5 h t105 t104) fun h=>(fun _ h =>
 let t106:Value:=t0
 HC Tryz.prog 28 (([]:List Value)++[t106,(Value.int .i64 1),(Value.string (ByteArray.mk #[98,121]))]++([]:List Value)).toArray h (resK (fun t107 h =>
 let t108:Value:=t0
 HC Tryz.prog 32 (([]:List Value)++[t108,(Value.int .u8 116)]++([]:List Value)).toArray h (resK (fun t109 h =>
 bq (fa 7 5 t4) fun t110 =>
 bq (stN 5 h t110 t109) fun h=>(fun _ h =>
 K48_38 t0 t2 t4 h Q) undef h) (fun v h=>Q (.pan v) h))) (fun v h=>Q (.pan v) h))) undef h) (fun v h=>Q (.pan v) h)))) (fun v h=>Q (.pan v) h))) undef h) (fun v h=>Q (.pan v) h))) (fun v h=>Q (.pan v) h)))
 (let t21:Value:=t0
 bq (fa 1 1 t3) fun t22 =>
 bq (ld1 h t22) fun t23 =>
 HC Tryz.prog 46 (([]:List Value)++[t21,(Value.int .i64 161),t23]++([]:List Value)).toArray h (resK (fun t24 h =>
 K48_39 t2 t4 h Q) (fun v h=>Q (.pan v) h)))
theorem X48_30_eq (t0 t2 t3 t4 t87:Value) (h:AH) (Q:RQ):X48_30 t0 t2 t3 t4 t87 h Q=wpC Tryz.prog L48 (cAt code48 [.r,.r,.r,.r,.l,.r,.i,.r,.r,.r,.r,.r,.r,.r]) (mkA 119 [(0,t0),(2,t2),(3,t3),(4,t4),(87,t87)]) h (ctxAt Tryz.prog L48 code48 [.r,.r,.r,.r,.l,.r,.i,.r,.r,.r,.r,.r,.r,.r] (retK Tryz.prog res48 Q)):=by kernel_rfl
theorem X48_30_ok {t0 t2 t3 t4 t87:Value} {h:AH} {Q:RQ} (H:X48_30 t0 t2 t3 t4 t87 h Q):K48_30 t0 t2 t3 t4 t87 h Q:=(K48_30_eq t0 t2 t3 t4 t87 h Q).mp (((X48_30_eq t0 t2 t3 t4 t87 h Q).mp H))
noncomputable def X48_39 (t2 t4:Value) (h:AH) (Q:RQ):Prop :=
 bq (ldN 14 h t4) fun t118 =>
 bq (stN 14 h t2 t118) fun h=>(fun _ h =>
 bq (seqO [ldN 14 h t2]) fun vs=>Q (.ret (oneOf vs)) h) undef h
theorem X48_39_eq (t2 t4:Value) (h:AH) (Q:RQ):X48_39 t2 t4 h Q=wpC Tryz.prog L48 (cAt code48 [.r,.r,.r,.r,.r]) (mkA 119 [(2,t2),(4,t4)]) h (ctxAt Tryz.prog L48 code48 [.r,.r,.r,.r,.r] (retK Tryz.prog res48 Q)):=by kernel_rfl
theorem X48_39_ok {t2 t4:Value} {h:AH} {Q:RQ} (H:X48_39 t2 t4 h Q):K48_39 t2 t4 h Q:=(K48_39_eq t2 t4 h Q).mp (((X48_39_eq t2 t4 h Q).mp H))
noncomputable def X48_4 (t0 t2 t3:Value) (h:AH) (Q:RQ):Prop :=
 bq (fa 2 1 t3) fun t16 =>
 bq (ld1 h t16) fun t17 =>
 bq (bd #[(Value.string (ByteArray.mk #[])),(Value.string (ByteArray.mk #[])),(Value.string (ByteArray.mk #[])),(Value.int .i64 0),(Value.int .i64 0),(Value.string (ByteArray.mk #[])),(Value.slice none 0 0),(Value.string (ByteArray.mk #[])),(Value.int .i64 0),(Value.int .i64 0),(Value.string (ByteArray.mk #[])),(Value.slice none 0 0),(Value.slice none 0 0),(Value.slice none 0 0)] [(0,1,t17)]) fun t18 =>
 (fun t4 h =>
 bq (stN 14 h t4 t18) fun h=>(fun _ h =>
 bq (fa 2 1 t3) fun t19 =>
 bq (ld1 h t19) fun t20 =>
 bq (binV Tryz.prog .eql 9 (.tmp 20) (.const (Value.string (ByteArray.mk #[101,109,105,116]))) t20 (Value.string (ByteArray.mk #[101,109,105,116])) h) fun t26 =>
 let t25:Value:=t26
 condP (some t25)
 (let t27:Value:=t0
 HC Tryz.prog 31 (([]:List Value)++[t27]++([]:List Value)).toArray h (resK (fun t28 h =>
 let t29:Value:=t0
 HC Tryz.prog 32 (([]:List Value)++[t29,(Value.int .u8 116)]++([]:List Value)).toArray h (resK (fun t30 h =>
 bq (fa 2 5 t4) fun t31 =>
 bq (stN 5 h t31 t30) fun h=>(fun _ h =>
 let t32:Value:=t0
 HC Tryz.prog 28 (([]:List Value)++[t32,(Value.int .i64 4),(Value.string (ByteArray.mk #[44]))]++([]:List Value)).toArray h (resK (fun t33 h =>
 let t34:Value:=t0
 HC Tryz.prog 32 (([]:List Value)++[t34,(Value.int .u8 116)]++([]:List Value)).toArray h (resK (fun t35 h =>
 bq (fa 7 5 t4) fun t36 =>
 bq (stN 5 h t36 t35) fun h=>(fun _ h =>
 let t37:Value:=t0
 HC Tryz.prog 28 (([]:List Value)++[t37,(Value.int .i64 4),(Value.string (ByteArray.mk #[59]))]++([]:List Value)).toArray h (resK (fun t38 h =>
 K48_39 t2 t4 h Q) (fun v h=>Q (.pan v) h))) undef h) (fun v h=>Q (.pan v) h))) (fun v h=>Q (.pan v) h))) undef h) (fun v h=>Q (.pan v) h))) (fun v h=>Q (.pan v) h)))
 (bq (binV Tryz.prog .eql 9 (.tmp 20) (.const (Value.string (ByteArray.mk #[108,101,116]))) t20 (Value.string (ByteArray.mk #[108,101,116])) h) fun t40 =>
 let t39:Value:=t40
 condP (some t39)
 (let t41:Value:=t0
 HC Tryz.prog 31 (([]:List Value)++[t41]++([]:List Value)).toArray h (resK (fun t42 h =>
 let t43:Value:=t0
 HC Tryz.prog 59 (([]:List Value)++[t43]++([]:List Value)).toArray h (resK (fun t44 h =>
 bq (fa 1 1 t4) fun t45 =>
 bq (stN 1 h t45 t44) fun h=>(fun _ h =>
 let t46:Value:=t0
 HC Tryz.prog 28 (([]:List Value)++[t46,(Value.int .i64 4),(Value.string (ByteArray.mk #[61]))]++([]:List Value)).toArray h (resK (fun t47 h =>
 let t49:Value:=t0
 HC Tryz.prog 49 (([]:List Value)++[t49]++([]:List Value)).toArray h (resK (fun t50 h =>
 let t48:Value:=t50
 bq (opExtract t48 0) fun t51 =>
 bq (opExtract t48 1) fun t52 =>
 (fun t5 h =>
 bq (stN 5 h t5 t51) fun h=>(fun _ h =>
 let t6:Value:=t52
 bq (ldN 5 h t5) fun t53 =>
 bq (fa 2 5 t4) fun t54 =>
 bq (stN 5 h t54 t53) fun h=>(fun _ h =>
 let t55:Value:=t0
 HC Tryz.prog 28 (([]:List Value)++[t55,(Value.int .i64 4),(Value.string (ByteArray.mk #[59]))]++([]:List Value)).toArray h (resK (fun t56 h =>
 let t57:Value:=t0
 let t58:Value:=t0
 bq (nilV Tryz.prog t58) fun t59 =>
 bq (fa 1 1 t59) fun t60 =>
 bq (ld1 h t60) fun t61 =>
 bq (fa 1 1 t4) fun t62 =>
 bq (ld1 h t62) fun t63 =>
 let t64:Value:=t6
 bq (bd #[(Value.string (ByteArray.mk #[])),(Value.int .u8 0)] [(0,1,t63),(1,1,t64)]) fun t65 =>
 bq (bs 86 #[(Value.string (ByteArray.mk #[])),(Value.int .u8 0)] 1 h [(0,2,t65)]) fun r=>(fun t66 h =>
 ((bq (ld1 h t60) fun u=>(u=t61))∧(True)) ∧
 bq (apT 86 2 24 (some (Value.agg #[(Value.string (ByteArray.mk #[])),(Value.int .u8 0)])) h t61 t66) fun r=>(fun t67 h =>
 (True) ∧
 bq (nilV Tryz.prog t57) fun t68 =>
 bq (fa 1 1 t68) fun t69 =>
 bq (stN 1 h t69 t67) fun h=>(fun q20_13 h =>
 (True) ∧
 K48_39 t2 t4 h Q) undef h) r.1 r.2) r.1 r.2) (fun v h=>Q (.pan v) h))) undef h) undef h) (opNew h 64 #[(Value.string (ByteArray.mk #[])),(Value.int .i64 0),(Value.int .i64 0),(Value.string (ByteArray.mk #[])),(Value.slice none 0 0)]).1 (opNew h 64 #[(Value.string (ByteArray.mk #[])),(Value.int .i64 0),(Value.int .i64 0),(Value.string (ByteArray.mk #[])),(Value.slice none 0 0)]).2) (fun v h=>Q (.pan v) h))) (fun v h=>Q (.pan v) h))) undef h) (fun v h=>Q (.pan v) h))) (fun v h=>Q (.pan v) h)))
 (bq (binV Tryz.prog .eql 9 (.tmp 20) (.const (Value.string (ByteArray.mk #[105,102]))) t20 (Value.string (ByteArray.mk #[105,102])) h) fun t71 =>
 let t70:Value:=t71
 condP (some t70)
 (let t72:Value:=t0
 HC Tryz.prog 31 (([]:List Value)++[t72]++([]:List Value)).toArray h (resK (fun t73 h =>
 let t74:Value:=t0
 HC Tryz.prog 32 (([]:List Value)++[t74,(Value.int .u8 110)]++([]:List Value)).toArray h (resK (fun t75 h =>
 bq (fa 2 5 t4) fun t76 =>
 bq (stN 5 h t76 t75) fun h=>(fun _ h =>
 let t77:Value:=t0
 HC Tryz.prog 29 (([]:List Value)++[t77,(Value.bool false),(Value.slice none 0 0)]++([]:List Value)).toArray h (resK (fun t78 h =>
 bq (fa 12 1 t4) fun t79 =>
 bq (stN 1 h t79 t78) fun h=>(fun _ h =>
 let t80:Value:=t0
 HC Tryz.prog 30 (([]:List Value)++[t80,(Value.int .i64 1),(Value.string (ByteArray.mk #[101,108,115,101]))]++([]:List Value)).toArray h (resK (fun t81 h =>
 condP (some t81)
 (let t82:Value:=t0
 HC Tryz.prog 31 (([]:List Value)++[t82]++([]:List Value)).toArray h (resK (fun t83 h =>
 let t84:Value:=t0
 HC Tryz.prog 29 (([]:List Value)++[t84,(Value.bool false),(Value.slice none 0 0)]++([]:List Value)).toArray h (resK (fun t85 h =>
 bq (fa 13 1 t4) fun t86 =>
 bq (stN 1 h t86 t85) fun h=>(fun _ h =>
 K48_39 t2 t4 h Q) undef h) (fun v h=>Q (.pan v) h))) (fun v h=>Q (.pan v) h)))
 (K48_39 t2 t4 h Q)) (fun v h=>Q (.pan v) h))) undef h) (fun v h=>Q (.pan v) h))) undef h) (fun v h=>Q (.pan v) h))) (fun v h=>Q (.pan v) h)))
 (bq (binV Tryz.prog .eql 9 (.tmp 20) (.const (Value.string (ByteArray.mk #[101,97,99,104]))) t20 (Value.string (ByteArray.mk #[101,97,99,104])) h) fun t88 =>
 let t87:Value:=t88
 condP (some t87)
 (K48_30 t0 t2 t3 t4 t87 h Q)
 (bq (binV Tryz.prog .eql 9 (.tmp 20) (.const (Value.string (ByteArray.mk #[102,111,114]))) t20 (Value.string (ByteArray.mk #[102,111,114])) h) fun t89 =>
 let t87:Value:=t89
 K48_30 t0 t2 t3 t4 t87 h Q))))) undef h) (opNew h 104 #[(Value.string (ByteArray.mk #[])),(Value.string (ByteArray.mk #[])),(Value.string (ByteArray.mk #[])),(Value.int .i64 0),(Value.int .i64 0),(Value.string (ByteArray.mk #[])),(Value.slice none 0 0),(Value.string (ByteArray.mk #[])),(Value.int .i64 0),(Value.int .i64 0),(Value.string (ByteArray.mk #[])),(Value.slice none 0 0),(Value.slice none 0 0),(Value.slice none 0 0)]).1 (opNew h 104 #[(Value.string (ByteArray.mk #[])),(Value.string (ByteArray.mk #[])),(Value.string (ByteArray.mk #[])),(Value.int .i64 0),(Value.int .i64 0),(Value.string (ByteArray.mk #[])),(Value.slice none 0 0),(Value.string (ByteArray.mk #[])),(Value.int .i64 0),(Value.int .i64 0),(Value.string (ByteArray.mk #[])),(Value.slice none 0 0),(Value.slice none 0 0),(Value.slice none 0 0)]).2
theorem X48_4_eq (t0 t2 t3:Value) (h:AH) (Q:RQ):X48_4 t0 t2 t3 h Q=wpC Tryz.prog L48 (cAt code48 [.r,.r,.r]) (mkA 119 [(0,t0),(2,t2),(3,t3)]) h (ctxAt Tryz.prog L48 code48 [.r,.r,.r] (retK Tryz.prog res48 Q)):=by kernel_rfl
theorem X48_4_ok {t0 t2 t3:Value} {h:AH} {Q:RQ} (H:X48_4 t0 t2 t3 h Q):K48_4 t0 t2 t3 h Q:=(K48_4_eq t0 t2 t3 h Q).mp (((X48_4_eq t0 t2 t3 h Q).mp H))
noncomputable def X48 (t0:Value) (h:AH) (Q:RQ):Prop :=
 (fun t2 h =>
 let t7:Value:=t0
 HC Tryz.prog 47 (([]:List Value)++[t7]++([]:List Value)).toArray h (resK (fun t8 h =>
 (fun t3 h =>
 bq (stN 3 h t3 t8) fun h=>(fun _ h =>
 bq (fa 0 1 t3) fun t9 =>
 bq (ld1 h t9) fun t10 =>
 bq (binV Tryz.prog .neq 53 (.tmp 10) (.const (Value.int .i64 1)) t10 (Value.int .i64 1) h) fun t11 =>
 condP (some t11)
 (let t12:Value:=t0
 bq (fa 1 1 t3) fun t13 =>
 bq (ld1 h t13) fun t14 =>
 HC Tryz.prog 46 (([]:List Value)++[t12,(Value.int .i64 161),t14]++([]:List Value)).toArray h (resK (fun t15 h =>
 K48_4 t0 t2 t3 h Q) (fun v h=>Q (.pan v) h)))
 (K48_4 t0 t2 t3 h Q)) undef h) (opNew h 55 #[(Value.int .i64 0),(Value.int .i64 0),(Value.string (ByteArray.mk #[]))]).1 (opNew h 55 #[(Value.int .i64 0),(Value.int .i64 0),(Value.string (ByteArray.mk #[]))]).2) (fun v h=>Q (.pan v) h))) (opNew h 104 #[(Value.string (ByteArray.mk #[])),(Value.string (ByteArray.mk #[])),(Value.string (ByteArray.mk #[])),(Value.int .i64 0),(Value.int .i64 0),(Value.string (ByteArray.mk #[])),(Value.slice none 0 0),(Value.string (ByteArray.mk #[])),(Value.int .i64 0),(Value.int .i64 0),(Value.string (ByteArray.mk #[])),(Value.slice none 0 0),(Value.slice none 0 0),(Value.slice none 0 0)]).1 (opNew h 104 #[(Value.string (ByteArray.mk #[])),(Value.string (ByteArray.mk #[])),(Value.string (ByteArray.mk #[])),(Value.int .i64 0),(Value.int .i64 0),(Value.string (ByteArray.mk #[])),(Value.slice none 0 0),(Value.string (ByteArray.mk #[])),(Value.int .i64 0),(Value.int .i64 0),(Value.string (ByteArray.mk #[])),(Value.slice none 0 0),(Value.slice none 0 0),(Value.slice none 0 0)]).2
theorem X48_eq (t0:Value) (h:AH) (Q:RQ):X48 t0 h Q=wpC Tryz.prog L48 code48 (argA [t0] Tryz.f48.ntmps) h (retK Tryz.prog res48 Q):=by kernel_rfl
theorem X48_body:Tryz.f48.body=some code48:=by kernel_rfl
theorem X48_ok {t0:Value} {h:AH} {Q:RQ} (H:X48 t0 h Q):HC Tryz.prog 48 [t0].toArray h Q:=HC.body Tryz.func48 X48_body ((X48_eq t0 h Q).mp H)
end Go.Proofs.YtibigfkeaemanaaGreatDoor.X
end
section
namespace Go.Proofs.YtibigfkeaemanaaGreatDoor.L
open Go.Ab Go.Lang Go.Proofs.YtibigfkeaemanaaGreatDoor.X
set_option maxRecDepth 100000
def stmt0:Lang.Stmt:=.mk empty empty .zero .zero [] []
structure SL (h h':AH) (t:Tok) (s:Lang.Stmt):Prop where
 res:h'.get h.size=some (.cells (celS stmt0).toArray 104 (0,0),none)
 tok:h'.get (h.size + 1)=some (.cells #[.int .i64 t.cls,.int .i64 t.at_,.string t.text] 55 (0,0),none)
 out:h'.get (h.size + 2)=some (.cells (celS s).toArray 104 (0,0),none)
 size:h.size + 3 ≤ h'.size
theorem SL.adv {h h1 h2:AH} {kp:Nat} {bv:Value} {t:Tok} {s:Lang.Stmt} (x:SL h h1 t s) (a:AdvB kp bv h1 h2) (hk:kp < h.size) (hb:∀ k,blkOf bv=some k→k < h.size ∨ h.size + 3 ≤ k):SL h h2 t s:=by
 have h1s:=x.size
 have g:∀ k,h.size ≤ k→k < h.size + 3→h2.get k=h1.get k:=fun k p q=>a.get k (by omega) (by omega) fun e=>by have:=hb k e;omega
 exact ⟨(g _ (by omega) (by omega)).trans x.res,(g _ (by omega) (by omega)).trans x.tok,(g _ (by omega) (by omega)).trans x.out,Nat.le_trans x.size a.size⟩
theorem SL.put {h h1:AH} {t:Tok} {s s':Lang.Stmt} (x:SL h h1 t s):SL h (h1.put (h.size + 2) (some (.cells (celS s').toArray 104 (0,0),none))) t s' :=
 ⟨by rw [get_put_ne (by omega)];exact x.res,by rw [get_put_ne (by omega)];exact x.tok,get_put_eq rfl,by rw [sz_put];exact x.size⟩
theorem put_adv {h h1:AH} {kp:Nat} {bv:Value} {v:Option (Obj × Option Nat)} (a:AdvB kp bv h h1):AdvB kp bv h (h1.put (h.size + 2) v):=a.put _ _ (.inr (by omega))
theorem PS.put {h1:AH} {kp:Nat} {e:Tok} {ts:List Tok} {bv:Value} {vs:List Var} {b l c j:Nat} {v:Option (Obj × Option Nat)} (S:PS h1 kp e ts bv vs b l c) (h1':j ≠ kp) (h2:blkOf bv ≠ some j):PS (h1.put j v) kp e ts bv vs b l c :=
 ⟨by rw [get_put_ne (fun e=>h1' e.symm)];exact S.row,S.own.mono fun k hk=>get_put_ne fun e=>h2 (by rw [hk,e]),S.ne,S.lt,S.ltb⟩
theorem setName {h h1:AH} {t:Tok} {op x y:ByteArray} {a b:Lang.Expr} {p q:List Lang.Stmt} (X:SL h h1 t (.mk op x a b p q)):stN 1 h1 (.pointer (some ⟨h.size + 2,1,none⟩)) (.string y)=some (h1.put (h.size + 2) (some (.cells (celS (.mk op y a b p q)).toArray 104 (0,0),none))) :=
 stN_mid (a:=[.string op]) (b:=[.string x]) (c:=celE a++celE b++[slV (encSs p),slV (encSs q)]) (v:=.string y) (by have:=X.out;simpa [celS] using this) rfl rfl rfl (fun z hz=>by simp [Value.cells] at hz;subst hz;rfl) |>.trans (by simp [celS,Value.cells])
theorem setA {h h1:AH} {t:Tok} {op x:ByteArray} {a a' b:Lang.Expr} {p q:List Lang.Stmt} (X:SL h h1 t (.mk op x a b p q)):stN 5 h1 (.pointer (some ⟨h.size + 2,2,none⟩)) (encE a')=some (h1.put (h.size + 2) (some (.cells (celS (.mk op x a' b p q)).toArray 104 (0,0),none))) :=
 stN_mid (a:=[.string op,.string x]) (b:=celE a) (c:=celE b++[slV (encSs p),slV (encSs q)]) (v:=encE a') (by have:=X.out;simpa [celS] using this) rfl (celE_len a) (by rw [encE_cells];simp [celE_len]) (fun z hz=>celE_one a' z (by rw [encE_cells] at hz;simpa using hz)) |>.trans (by simp [celS,encE_cells])
theorem setB {h h1:AH} {t:Tok} {op x:ByteArray} {a b b':Lang.Expr} {p q:List Lang.Stmt} (X:SL h h1 t (.mk op x a b p q)):stN 5 h1 (.pointer (some ⟨h.size + 2,7,none⟩)) (encE b')=some (h1.put (h.size + 2) (some (.cells (celS (.mk op x a b' p q)).toArray 104 (0,0),none))) :=
 stN_mid (a:=[.string op,.string x]++celE a) (b:=celE b) (c:=[slV (encSs p),slV (encSs q)]) (v:=encE b') (by have:=X.out;simpa [celS] using this) (by simp [celE_len]) (celE_len b) (by rw [encE_cells];simp [celE_len]) (fun z hz=>celE_one b' z (by rw [encE_cells] at hz;simpa using hz)) |>.trans (by simp [celS,encE_cells])
theorem setBody {h h1:AH} {t:Tok} {op x:ByteArray} {a b:Lang.Expr} {p p' q:List Lang.Stmt} (X:SL h h1 t (.mk op x a b p q)):stN 1 h1 (.pointer (some ⟨h.size + 2,12,none⟩)) (slV (encSs p'))=some (h1.put (h.size + 2) (some (.cells (celS (.mk op x a b p' q)).toArray 104 (0,0),none))) :=
 stN_mid (a:=[.string op,.string x]++celE a++celE b) (b:=[slV (encSs p)]) (c:=[slV (encSs q)]) (v:=slV (encSs p')) (by have:=X.out;simpa [celS] using this) (by simp [celE_len]) rfl (by rw [cells_slV];rfl) (fun z hz=>by rw [cells_slV] at hz;simp at hz;subst hz;exact one_slV _) |>.trans (by simp [celS,cells_slV])
theorem setElse {h h1:AH} {t:Tok} {op x:ByteArray} {a b:Lang.Expr} {p q q':List Lang.Stmt} (X:SL h h1 t (.mk op x a b p q)):stN 1 h1 (.pointer (some ⟨h.size + 2,13,none⟩)) (slV (encSs q'))=some (h1.put (h.size + 2) (some (.cells (celS (.mk op x a b p q')).toArray 104 (0,0),none))) :=
 stN_mid (a:=[.string op,.string x]++celE a++celE b++[slV (encSs p)]) (b:=[slV (encSs q)]) (c:=[]) (v:=slV (encSs q')) (by have:=X.out;simpa [celS] using this) (by simp [celE_len]) rfl (by rw [cells_slV];rfl) (fun z hz=>by rw [cells_slV] at hz;simp at hz;subst hz;exact one_slV _) |>.trans (by simp [celS,cells_slV])
theorem stmt_end {h h1:AH} {kp:Nat} {e t:Tok} {bv bv':Value} {vs':List Var} {b l:Nat} {ts':List Tok} {s:Lang.Stmt} {rs:R ((Lang.Stmt × List Var) × List Tok)} (hk:kp < h.size) (X:SL h h1 t s) (S:PS h1 kp e ts' bv' vs' b l 0) (A:AdvB kp bv h h1) (B:Bv h bv bv') (hb:∀ k,blkOf bv' = some k→k < h.size ∨ h.size + 3 ≤ k) (hrs:rs=.ok ((s,vs'),ts')) :
  K48_39 (.pointer (some ⟨h.size,0,none⟩)) (.pointer (some ⟨h.size + 2,0,none⟩)) h1 (SPost kp e bv b l h rs):=by
 refine X48_39_ok ?_
 unfold X48_39
 rw [ldN_full X.out (by simp [celS_len])]
 simp only [RK,Nat.reduceAdd]
 refine bq_of (stN_full X.res (by simp [celS_len]) (by simp [Value.cells,celS_len]) (fun x hx=>celS_one s x (by simpa [Value.cells] using hx))) ?_
 rw [ldN_full (get_put_eq rfl) (by simp [Value.cells,celS_len])]
 simp (disch:=first|exact dz|fail) only [SXB,SX,simprocAttr]
 rw [hrs]
 refine ⟨?_,⟨bv',S.put (by omega) (fun e=>by have:=hb _ e;omega),B⟩,A.put _ _ (.inr (Nat.le_refl _))⟩
 rw [encS_eq]
end Go.Proofs.YtibigfkeaemanaaGreatDoor.L
end
section
namespace Go.Proofs.YtibigfkeaemanaaGreatDoor.L
open Go.Ab Go.Lang Go.Proofs.YtibigfkeaemanaaGreatDoor.X
set_option maxRecDepth 100000
structure ST (h h1:AH) (kp:Nat) (e t:Tok) (bv bv1:Value) (vs:List Var) (b l:Nat) (s:Lang.Stmt) (ts1:List Tok):Prop where
 X:SL h h1 t s
 S:PS h1 kp e ts1 bv1 vs b l 0
 A:AdvB kp bv h h1
 B:Bv h bv bv1
 hb:∀ k,blkOf bv1=some k→k < h.size ∨ h.size + 3 ≤ k
 ok:TokOK ts1
 G:Glob h1
 L:LoG 10 kp bv1
 lt:kp < h.size
theorem ST.adv {h h1 h2:AH} {kp:Nat} {e t:Tok} {bv bv1:Value} {vs:List Var} {b l:Nat} {s:Lang.Stmt} {ts1 ts2:List Tok} (x:ST h h1 kp e t bv bv1 vs b l s ts1) (S2:PS h2 kp e ts2 bv1 vs b l 0) (a:Adv kp h1 h2) (ok:TokOK ts2):ST h h2 kp e t bv bv1 vs b l s ts2 :=
 ⟨x.X.adv a.b x.lt x.hb,S2,x.A.trans a.b x.B,x.B,x.hb,ok,x.G.adv a x.L.kp,x.L,x.lt⟩
theorem ST.set {h h1:AH} {kp:Nat} {e t:Tok} {bv bv1:Value} {vs:List Var} {b l:Nat} {s s':Lang.Stmt} {ts1:List Tok} (x:ST h h1 kp e t bv bv1 vs b l s ts1):ST h (h1.put (h.size + 2) (some (.cells (celS s').toArray 104 (0,0),none))) kp e t bv bv1 vs b l s' ts1:=by
 have hlt:=x.lt
 have hk:=x.L.kp
 refine ⟨x.X.put,x.S.put (by omega) (fun e=>by have:=x.hb _ e;omega),put_adv x.A,x.B,x.hb,x.ok,?_,x.L,x.lt⟩
 obtain ⟨⟨m,e,fz,s,h1⟩,⟨e2,fz2,s2,h2⟩,h3⟩:=x.G
 exact ⟨⟨m,e,fz,s,by rw [get_put_ne (by omega)];exact h1⟩,⟨e2,fz2,s2,by rw [get_put_ne (by omega)];exact h2⟩,by rw [sz_put];exact h3⟩
theorem ST.blk {h h1 h2:AH} {kp:Nat} {e t:Tok} {bv bv1 bv2:Value} {vs:List Var} {b l:Nat} {s:Lang.Stmt} {ts1 ts2:List Tok} (x:ST h h1 kp e t bv bv1 vs b l s ts1) (S2:PS h2 kp e ts2 bv2 vs b l 0) (B2:Bv h1 bv1 bv2) (a:AdvB kp bv1 h1 h2) (ok:TokOK ts2):ST h h2 kp e t bv bv2 vs b l s ts2 :=
 ⟨x.X.adv a x.lt x.hb,S2,x.A.trans a x.B,x.B.trans B2 x.A.size,fun k hk=>by
  rcases B2 k hk with h | h
  ·exact x.hb k h
  ·exact .inr (Nat.le_trans x.X.size h),ok,x.G.advB a x.L,x.L.of_bv B2 x.G,x.lt⟩
theorem SPost.err {kp:Nat} {e:Tok} {bv:Value} {b l:Nat} {h h':AH} {rs:R ((Lang.Stmt × List Var) × List Tok)} {f:Nat × Nat} (hrs:rs=.error f) (p:PanS h' kp) (A:AdvB kp bv h h'):SPost kp e bv b l h rs (.pan (faultV f)) h':=by
 rw [hrs];exact ⟨rfl,p,A⟩
theorem ST.fin {h h1:AH} {kp:Nat} {e t:Tok} {bv bv1:Value} {vs:List Var} {b l:Nat} {s:Lang.Stmt} {ts1:List Tok} {rs:R ((Lang.Stmt × List Var) × List Tok)} (x:ST h h1 kp e t bv bv1 vs b l s ts1) (hrs:rs=.ok ((s,vs),ts1)) :
  K48_39 (.pointer (some ⟨h.size,0,none⟩)) (.pointer (some ⟨h.size + 2,0,none⟩)) h1 (SPost kp e bv b l h rs):=stmt_end x.lt x.X x.S x.A x.B x.hb hrs
theorem expr0_at {kp:Nat} {e:Tok} {bv:Value} {vs:List Var} {b l:Nat} {ts:List Tok} (hk:10 ≤ kp) (hv:VsOK vs) (hl:vs.length ≤ 1048576) (ok:TokOK ts):ExprOK true kp e bv vs b l 0 (expr0 vs) ts:=expr_ok ts.length hk (by omega) hv hl ok (Nat.le_refl _)
theorem ST.of {h h1:AH} {kp:Nat} {e t:Tok} {bv bv1:Value} {vs:List Var} {b l:Nat} {s:Lang.Stmt} {ts1:List Tok} {Q:RQ} (x:ST h h1 kp e t bv bv1 vs b l s ts1) (hv:VsOK vs) (hl:vs.length ≤ 1048576) (k:Nat)
  (hok:∀ a ts2 h2,ofK (expr0 vs) k ts1=.ok (a,ts2)→ST h h2 kp e t bv bv1 vs b l s ts2→ts2.length < ts1.length→Q (.ret (encE a)) h2) (herr:∀ f h2,ofK (expr0 vs) k ts1=.error f→PanS h2 kp→AdvB kp bv h h2→Q (.pan (faultV f)) h2) :
  HC Tryz.prog 32 [.pointer (some ⟨kp,0,none⟩),.int .u8 (k:Nat)].toArray h1 Q :=
 of_ok (expr0_at x.L.kp hv hl x.ok) (expr0_ok hv) x.ok x.S x.G k (fun a ts2 h2 hof S2 a2=>by
  have sh:=ofK_shr (expr0_ok hv) x.ok hof
  exact hok a ts2 h2 hof (x.adv S2 a2 sh.1) sh.2) fun f h2 hof p a2=>herr f h2 hof p (x.A.trans a2.b x.B)
theorem ST.want {h h1:AH} {kp:Nat} {e t:Tok} {bv bv1:Value} {vs:List Var} {b l:Nat} {s:Lang.Stmt} {ts1:List Tok} {Q:RQ} (x:ST h h1 kp e t bv bv1 vs b l s ts1) (k:Nat) (y:ByteArray) (hk:k ≠ 0)
  (hok:∀ ts2 h2,Lang.want k y ts1=.ok ts2→ST h h2 kp e t bv bv1 vs b l s ts2→ts2.length < ts1.length→Q (.ret (.tuple #[])) h2) (herr:∀ f,Lang.want k y ts1=.error f→PanS h1 kp→AdvB kp bv h h1→Q (.pan (faultV f)) h1) :
  HC Tryz.prog 28 [.pointer (some ⟨kp,0,none⟩),.int .i64 (k:Int),.string y].toArray h1 Q :=
 want_ok x.S x.ok.ne k y (fun ts2 h2 hw S2 a2=>by
  have sh:=want_shr hw hk x.ok
  exact hok ts2 h2 hw (x.adv S2 a2 sh.1) sh.2) fun f hw=>herr f hw x.S.pan x.A
theorem emit_ok {h h1:AH} {kp:Nat} {e t:Tok} {bv bv1:Value} {vs:List Var} {b l:Nat} {r:List Tok} {rs:R ((Lang.Stmt × List Var) × List Tok)} (hv:VsOK vs) (hl:vs.length ≤ 1048576)
  (x:ST h h1 kp e t bv bv1 vs b l (.mk wEmit empty .zero .zero [] []) r) (hrs:rs=(emitF vs r).map fun p=>((p.1,vs),p.2)) (Q:RQ) (hQ:Q=SPost kp e bv b l h rs) :
  HC Tryz.prog 32 [.pointer (some ⟨kp,0,none⟩),.int .u8 116].toArray h1 (resK (fun t30 h2=>bq (stN 5 h2 (.pointer (some ⟨h.size + 2,2,none⟩)) t30) fun h2 =>
   HC Tryz.prog 28 [.pointer (some ⟨kp,0,none⟩),.int .i64 4,.string ⟨#[44]⟩].toArray h2 (resK (fun t33 h2 =>
    HC Tryz.prog 32 [.pointer (some ⟨kp,0,none⟩),.int .u8 116].toArray h2 (resK (fun t35 h2=>bq (stN 5 h2 (.pointer (some ⟨h.size + 2,7,none⟩)) t35) fun h2 =>
     HC Tryz.prog 28 [.pointer (some ⟨kp,0,none⟩),.int .i64 4,.string ⟨#[59]⟩].toArray h2 (resK (fun t38 h2=>K48_39 (.pointer (some ⟨h.size,0,none⟩)) (.pointer (some ⟨h.size + 2,0,none⟩)) h2 Q) (fun v h=>Q (.pan v) h)))
     (fun v h=>Q (.pan v) h))) (fun v h=>Q (.pan v) h))) (fun v h=>Q (.pan v) h)):=by
 subst hQ
 unfold emitF at hrs
 refine x.of hv hl 116 (fun a ts2 h2 hof x2 _=>?_) (fun f h2 hof p A=>?_)
 ·rw [hof] at hrs
  simp only at hrs
  simp only [resK_ret]
  refine bq_of (setA x2.X) ?_
  have x3:=x2.set (s':=.mk wEmit empty a .zero [] [])
  refine x3.want 4 mComma (by omega) (fun ts3 h3 hw x4 _=>?_) (fun f hw p A=>?_)
  ·rw [hw] at hrs
   simp only at hrs
   simp only [resK_ret]
   refine x4.of hv hl 116 (fun b' ts4 h4 hof x5 _=>?_) (fun f h4 hof p A=>?_)
   ·rw [hof] at hrs
    simp only at hrs
    simp only [resK_ret]
    refine bq_of (setB x5.X) ?_
    have x6:=x5.set (s':=.mk wEmit empty a b' [] [])
    refine x6.want 4 mSemi (by omega) (fun ts5 h5 hw x7 _=>?_) (fun f hw p A=>?_)
    ·rw [hw] at hrs
     simp only [resK_ret]
     exact x7.fin hrs
    ·rw [hw] at hrs
     simp only [resK_pan]
     exact .err hrs p A
   ·rw [hof] at hrs
    simp only [resK_pan]
    exact .err hrs p A
  ·rw [hw] at hrs
   simp only [resK_pan]
   exact .err hrs p A
 ·rw [hof] at hrs
  simp only [resK_pan]
  exact .err hrs p A
end Go.Proofs.YtibigfkeaemanaaGreatDoor.L
end
