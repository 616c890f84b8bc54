import Derived.KernelRfl
import Derived.Test.YtnaenhkldanjbaaDoorProg
import Derived.Test.YtnaenhkldanjbaaDoorZ14
set_option linter.unusedVariables false
set_option linter.unusedSimpArgs false
section
namespace Go.Proofs.YtnaenhkldanjbaaDoor.X
open Go.Ab
set_option maxRecDepth 100000
noncomputable def code7:Code:=match Tryd.f7.body with | some c=>c | none=>.skip
noncomputable def res7:List ResultVar:=Tryd.f7.results.toList
def L7:Nat→Option (List Nat):=fun r=>if r=4 then some [0,1,5] else if r=7 then some [0,1,5,6,7] else none
noncomputable def H7_4 (t0 t1 t5:Value) (h:AH) (Q:RQ):Prop:=HL Tryd.prog (cAt code7 [.r,.r,.l,.r,.i,.i]) (mkA 71 [(0,t0),(1,t1),(5,t5)]) h (ctxAt Tryd.prog L7 code7 [.r,.r,.l,.r,.i] (retK Tryd.prog res7 Q))
noncomputable def J7_7 (t0 t1 t5 t6 t7:Value) (h:AH) (Q:RQ):Prop:=wpC Tryd.prog L7 (cAt code7 [.r,.r,.l,.r,.i,.i,.r,.l,.i,.r]) (mkA 71 [(0,t0),(1,t1),(5,t5),(6,t6),(7,t7)]) h (ctxAt Tryd.prog L7 code7 [.r,.r,.l,.r,.i,.i,.r,.l,.i,.r] (retK Tryd.prog res7 Q))
noncomputable def K7_7 (t0 t1 t5 t6 t7:Value) (h:AH) (Q:RQ):Prop:=(ctxAt Tryd.prog L7 code7 [.r,.r,.l,.r,.i,.i,.r,.l,.i,.l] (retK Tryd.prog res7 Q)) .normal (mkA 71 [(0,t0),(1,t1),(5,t5),(6,t6),(7,t7)]) h
theorem K7_7_eq (t0 t1 t5 t6 t7:Value) (h:AH) (Q:RQ):J7_7 t0 t1 t5 t6 t7 h Q=K7_7 t0 t1 t5 t6 t7 h Q:=join_eq (p:=[.r,.r,.l,.r,.i,.i,.r,.l,.i]) (code:=code7) (by kernel_rfl) (by kernel_rfl)
noncomputable def X7_7 (t0 t1 t5 t6 t7:Value) (h:AH) (Q:RQ):Prop :=
 bq (fa 0 1 t6) fun t27 =>
 bq (ld1 h t27) fun t28 =>
 bq (fa 0 1 t7) fun t29 =>
 bq (ld1 h t29) fun t30 =>
 bq (binV Tryd.prog .neq 9 (.tmp 28) (.tmp 30) t28 t30 h) fun t31 =>
 let t32:Value:=t31
 guardQ t32 false h (fun k=>bq (fa 1 1 t6) fun v=>k v h) fun t33 h =>
 guardQ t32 false h (fun k=>bq (ld1 h t33) fun v=>k v h) fun t34 h =>
 guardQ t32 false h (fun k=>bq (fa 1 1 t7) fun v=>k v h) fun t35 h =>
 guardQ t32 false h (fun k=>bq (ld1 h t35) fun v=>k v h) fun t36 h =>
 guardQ t32 false h (fun k=>bq (binV Tryd.prog .neq 9 (.tmp 34) (.tmp 36) t34 t36 h) fun v=>k v h) fun t37 h =>
 bq (pickV t32 (Value.bool true) t37) fun t38 =>
 let t39:Value:=t38
 guardQ t39 false h (fun k=>bq (fa 2 5 t6) fun v=>k v h) fun t40 h =>
 guardQ t39 false h (fun k=>bq (ldN 5 h t40) fun v=>k v h) fun t41 h =>
 guardQ t39 false h (fun k=>bq (fa 2 5 t7) fun v=>k v h) fun t42 h =>
 guardQ t39 false h (fun k=>bq (ldN 5 h t42) fun v=>k v h) fun t43 h =>
 guardQ t39 false h (fun k=>HC Tryd.prog 8 (([]:List Value)++[t41,t43]++([]:List Value)).toArray h (resK k (fun v h=>Q (.pan v) h))) fun t44 h =>
 guardQ t39 false h (fun k=>bq (unV Tryd.prog .not t44) fun v=>k v h) fun t45 h =>
 bq (pickV t39 (Value.bool true) t45) fun t46 =>
 let t47:Value:=t46
 guardQ t47 false h (fun k=>bq (fa 7 5 t6) fun v=>k v h) fun t48 h =>
 guardQ t47 false h (fun k=>bq (ldN 5 h t48) fun v=>k v h) fun t49 h =>
 guardQ t47 false h (fun k=>bq (fa 7 5 t7) fun v=>k v h) fun t50 h =>
 guardQ t47 false h (fun k=>bq (ldN 5 h t50) fun v=>k v h) fun t51 h =>
 guardQ t47 false h (fun k=>HC Tryd.prog 8 (([]:List Value)++[t49,t51]++([]:List Value)).toArray h (resK k (fun v h=>Q (.pan v) h))) fun t52 h =>
 guardQ t47 false h (fun k=>bq (unV Tryd.prog .not t52) fun v=>k v h) fun t53 h =>
 bq (pickV t47 (Value.bool true) t53) fun t54 =>
 let t55:Value:=t54
 guardQ t55 false h (fun k=>bq (fa 12 1 t6) fun v=>k v h) fun t56 h =>
 guardQ t55 false h (fun k=>bq (ld1 h t56) fun v=>k v h) fun t57 h =>
 guardQ t55 false h (fun k=>bq (fa 12 1 t7) fun v=>k v h) fun t58 h =>
 guardQ t55 false h (fun k=>bq (ld1 h t58) fun v=>k v h) fun t59 h =>
 guardQ t55 false h (fun k=>HC Tryd.prog 7 (([]:List Value)++[t57,t59]++([]:List Value)).toArray h (resK k (fun v h=>Q (.pan v) h))) fun t60 h =>
 guardQ t55 false h (fun k=>bq (unV Tryd.prog .not t60) fun v=>k v h) fun t61 h =>
 bq (pickV t55 (Value.bool true) t61) fun t62 =>
 let t63:Value:=t62
 guardQ t63 false h (fun k=>bq (fa 13 1 t6) fun v=>k v h) fun t64 h =>
 guardQ t63 false h (fun k=>bq (ld1 h t64) fun v=>k v h) fun t65 h =>
 guardQ t63 false h (fun k=>bq (fa 13 1 t7) fun v=>k v h) fun t66 h =>
 guardQ t63 false h (fun k=>bq (ld1 h t66) fun v=>k v h) fun t67 h =>
 guardQ t63 false h (fun k=>HC Tryd.prog 7 (([]:List Value)++[t65,t67]++([]:List Value)).toArray h (resK k (fun v h=>Q (.pan v) h))) fun t68 h =>
 guardQ t63 false h (fun k=>bq (unV Tryd.prog .not t68) fun v=>k v h) fun t69 h =>
 bq (pickV t63 (Value.bool true) t69) fun t70 =>
 condP (some t70)
 (let t4:Value:=(Value.bool false)
 Q (.ret t4) h)
 (let t17:Value:=t5
 bq (binV Tryd.prog .add 3 (.tmp 17) (.const (Value.int .i64 1)) t17 (Value.int .i64 1) h) fun t18 =>
 let t5:Value:=t18
 H7_4 t0 t1 t5 h Q)
theorem X7_7_eq (t0 t1 t5 t6 t7:Value) (h:AH) (Q:RQ):X7_7 t0 t1 t5 t6 t7 h Q=wpC Tryd.prog L7 (cAt code7 [.r,.r,.l,.r,.i,.i,.r,.l,.i,.r]) (mkA 71 [(0,t0),(1,t1),(5,t5),(6,t6),(7,t7)]) h (ctxAt Tryd.prog L7 code7 [.r,.r,.l,.r,.i,.i,.r,.l,.i,.r] (retK Tryd.prog res7 Q)):=by kernel_rfl
theorem X7_7_ok {t0 t1 t5 t6 t7:Value} {h:AH} {Q:RQ} (H:X7_7 t0 t1 t5 t6 t7 h Q):K7_7 t0 t1 t5 t6 t7 h Q:=(K7_7_eq t0 t1 t5 t6 t7 h Q).mp (((X7_7_eq t0 t1 t5 t6 t7 h Q).mp H))
noncomputable def X7_4 (t0 t1 t5:Value) (h:AH) (Q:RQ):Prop :=
 let t13:Value:=t5
 let t14:Value:=t0
 bq (lenL t14) fun t15 =>
 bq (binV Tryd.prog .lss 3 (.tmp 13) (.tmp 15) t13 t15 h) fun t16 =>
 condP (some t16)
 ((let t19:Value:=t0
 let t20:Value:=t5
 bq (ia 14 t19 t20) fun t21 =>
 bq (ldN 14 h t21) fun t22 =>
 let t23:Value:=t1
 let t24:Value:=t5
 bq (ia 14 t23 t24) fun t25 =>
 bq (ldN 14 h t25) fun t26 =>
 (fun t6 h =>
 ((bq (ldN 14 h t25) fun u=>(u=t26))∧((bq (ldN 14 h t21) fun u=>(u=t22))∧(True))) ∧
 (fun t7 h =>
 ((bq (ldN 14 h t25) fun u=>(u=t26))∧((bq (ldN 14 h t21) fun u=>(u=t22))∧(True))) ∧
 bq (stN 14 h t6 t22) fun h=>(fun q6_10 h =>
 ((bq (ldN 14 h t25) fun u=>(u=t26))∧(True)) ∧
 bq (stN 14 h t7 t26) fun h=>(fun q6_11 h =>
 (True) ∧
 K7_7 t0 t1 t5 t6 t7 h Q) undef h) undef h) (opNew h 78 #[(Value.string (ByteArray.mk #[])),(Value.string (ByteArray.mk #[])),(Value.string (ByteArray.mk #[])),(Value.int .i64 0),(Value.int .i64 0),(Value.string (ByteArray.mk #[])),(Value.slice none 0 0),(Value.string (ByteArray.mk #[])),(Value.int .i64 0),(Value.int .i64 0),(Value.string (ByteArray.mk #[])),(Value.slice none 0 0),(Value.slice none 0 0),(Value.slice none 0 0)]).1 (opNew h 78 #[(Value.string (ByteArray.mk #[])),(Value.string (ByteArray.mk #[])),(Value.string (ByteArray.mk #[])),(Value.int .i64 0),(Value.int .i64 0),(Value.string (ByteArray.mk #[])),(Value.slice none 0 0),(Value.string (ByteArray.mk #[])),(Value.int .i64 0),(Value.int .i64 0),(Value.string (ByteArray.mk #[])),(Value.slice none 0 0),(Value.slice none 0 0),(Value.slice none 0 0)]).2) (opNew h 76 #[(Value.string (ByteArray.mk #[])),(Value.string (ByteArray.mk #[])),(Value.string (ByteArray.mk #[])),(Value.int .i64 0),(Value.int .i64 0),(Value.string (ByteArray.mk #[])),(Value.slice none 0 0),(Value.string (ByteArray.mk #[])),(Value.int .i64 0),(Value.int .i64 0),(Value.string (ByteArray.mk #[])),(Value.slice none 0 0),(Value.slice none 0 0),(Value.slice none 0 0)]).1 (opNew h 76 #[(Value.string (ByteArray.mk #[])),(Value.string (ByteArray.mk #[])),(Value.string (ByteArray.mk #[])),(Value.int .i64 0),(Value.int .i64 0),(Value.string (ByteArray.mk #[])),(Value.slice none 0 0),(Value.string (ByteArray.mk #[])),(Value.int .i64 0),(Value.int .i64 0),(Value.string (ByteArray.mk #[])),(Value.slice none 0 0),(Value.slice none 0 0),(Value.slice none 0 0)]).2) ∧
 (let t19:Value:=t0
 let t20:Value:=t5
 bq (ia 14 t19 t20) fun t21 =>
 bq (ldN 14 h t21) fun t22 =>
 let t23:Value:=t1
 let t24:Value:=t5
 bq (ia 14 t23 t24) fun t25 =>
 bq (ldN 14 h t25) fun t26 =>
 (fun t7 h =>
 ((bq (ldN 14 h t25) fun u=>(u=t26))∧((bq (ldN 14 h t21) fun u=>(u=t22))∧(True))) ∧
 (fun t6 h =>
 ((bq (ldN 14 h t25) fun u=>(u=t26))∧((bq (ldN 14 h t21) fun u=>(u=t22))∧(True))) ∧
 bq (stN 14 h t6 t22) fun h=>(fun q6_10 h =>
 ((bq (ldN 14 h t25) fun u=>(u=t26))∧(True)) ∧
 bq (stN 14 h t7 t26) fun h=>(fun q6_11 h =>
 (True) ∧
 K7_7 t0 t1 t5 t6 t7 h Q) undef h) undef h) (opNew h 76 #[(Value.string (ByteArray.mk #[])),(Value.string (ByteArray.mk #[])),(Value.string (ByteArray.mk #[])),(Value.int .i64 0),(Value.int .i64 0),(Value.string (ByteArray.mk #[])),(Value.slice none 0 0),(Value.string (ByteArray.mk #[])),(Value.int .i64 0),(Value.int .i64 0),(Value.string (ByteArray.mk #[])),(Value.slice none 0 0),(Value.slice none 0 0),(Value.slice none 0 0)]).1 (opNew h 76 #[(Value.string (ByteArray.mk #[])),(Value.string (ByteArray.mk #[])),(Value.string (ByteArray.mk #[])),(Value.int .i64 0),(Value.int .i64 0),(Value.string (ByteArray.mk #[])),(Value.slice none 0 0),(Value.string (ByteArray.mk #[])),(Value.int .i64 0),(Value.int .i64 0),(Value.string (ByteArray.mk #[])),(Value.slice none 0 0),(Value.slice none 0 0),(Value.slice none 0 0)]).2) (opNew h 78 #[(Value.string (ByteArray.mk #[])),(Value.string (ByteArray.mk #[])),(Value.string (ByteArray.mk #[])),(Value.int .i64 0),(Value.int .i64 0),(Value.string (ByteArray.mk #[])),(Value.slice none 0 0),(Value.string (ByteArray.mk #[])),(Value.int .i64 0),(Value.int .i64 0),(Value.string (ByteArray.mk #[])),(Value.slice none 0 0),(Value.slice none 0 0),(Value.slice none 0 0)]).1 (opNew h 78 #[(Value.string (ByteArray.mk #[])),(Value.string (ByteArray.mk #[])),(Value.string (ByteArray.mk #[])),(Value.int .i64 0),(Value.int .i64 0),(Value.string (ByteArray.mk #[])),(Value.slice none 0 0),(Value.string (ByteArray.mk #[])),(Value.int .i64 0),(Value.int .i64 0),(Value.string (ByteArray.mk #[])),(Value.slice none 0 0),(Value.slice none 0 0),(Value.slice none 0 0)]).2))
 (let t4:Value:=(Value.bool true)
 Q (.ret t4) h)
theorem X7_4_eq (t0 t1 t5:Value) (h:AH) (Q:RQ):X7_4 t0 t1 t5 h Q=wpC Tryd.prog L7 (cAt code7 [.r,.r,.l,.r,.i,.i]) (mkA 71 [(0,t0),(1,t1),(5,t5)]) h (ctxAt Tryd.prog L7 code7 [.r,.r,.l,.r,.i,.i] (retK Tryd.prog res7 Q)):=by kernel_rfl
theorem X7_4_ok {t0 t1 t5:Value} {h:AH} {Q:RQ} (H:X7_4 t0 t1 t5 h Q):H7_4 t0 t1 t5 h Q:=HL.step (L:=L7) ((X7_4_eq t0 t1 t5 h Q).mp H)
noncomputable def X7 (t0 t1:Value) (h:AH) (Q:RQ):Prop :=
 let t4:Value:=(Value.bool false)
 let t8:Value:=t0
 bq (lenL t8) fun t9 =>
 let t10:Value:=t1
 bq (lenL t10) fun t11 =>
 bq (binV Tryd.prog .neq 3 (.tmp 9) (.tmp 11) t9 t11 h) fun t12 =>
 condP (some t12)
 (let t4:Value:=(Value.bool false)
 Q (.ret t4) h)
 (let t5:Value:=(Value.int .i64 0)
 H7_4 t0 t1 t5 h Q)
theorem X7_eq (t0 t1:Value) (h:AH) (Q:RQ):X7 t0 t1 h Q=wpC Tryd.prog L7 code7 (argA [t0,t1] Tryd.f7.ntmps) h (retK Tryd.prog res7 Q):=by kernel_rfl
theorem X7_body:Tryd.f7.body=some code7:=by kernel_rfl
theorem X7_ok {t0 t1:Value} {h:AH} {Q:RQ} (H:X7 t0 t1 h Q):HC Tryd.prog 7 [t0,t1].toArray h Q:=HC.body Tryd.func7 X7_body ((X7_eq t0 t1 h Q).mp H)
end Go.Proofs.YtnaenhkldanjbaaDoor.X
end
