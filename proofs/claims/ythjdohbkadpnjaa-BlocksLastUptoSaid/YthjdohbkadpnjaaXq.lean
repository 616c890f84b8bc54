/-
  PRINTED BY xgen.py (this session's own): what must hold ahead of functions.
-/
import Derived.Test.YthjdohbkadpnjaaAbC
import Derived.Test.YthjdohbkadpnjaaProg
import Derived.KernelRfl
namespace Go.Proofs.Ythjdohbkadpnjaa.X
open Go.Ab
set_option linter.unusedVariables false
set_option maxRecDepth 100000
-- 7 mahout/mahoutlaw15.BlocksLast
noncomputable def code7 : Code := match Try.f7.body with | some c => c | none => .skip
noncomputable def res7 : List ResultVar := Try.f7.results.toList
def L7 : Nat → Option (List Nat) := fun r => if r = 6 then some [0, 1, 7, 8] else if r = 10 then some [0, 1, 7, 8, 9, 10] else if r = 16 then some [0, 1, 7, 8, 9, 12] else if r = 20 then some [0, 1, 7, 8, 9, 12, 13, 14] else none
noncomputable def J7_6 (t0 t1 t7 t8 : Value) (h : AH) (Q : Res → AH → Prop) : Prop := wpC Try.prog L7 (cAt code7 [.r, .r, .r, .r]) (mkA 136 [(0, t0), (1, t1), (7, t7), (8, t8)]) h (ctxAt Try.prog L7 code7 [.r, .r, .r, .r] (retK Try.prog res7 Q))
noncomputable def H7_10 (t0 t1 t7 t8 t9 t10 : Value) (h : AH) (Q : Res → AH → Prop) : Prop := HL Try.prog (cAt code7 [.r, .r, .r, .r, .r, .r, .r, .l, .r, .i, .i]) (mkA 136 [(0, t0), (1, t1), (7, t7), (8, t8), (9, t9), (10, t10)]) h (ctxAt Try.prog L7 code7 [.r, .r, .r, .r, .r, .r, .r, .l, .r, .i] (retK Try.prog res7 Q))
noncomputable def H7_16 (t0 t1 t7 t8 t9 t12 : Value) (h : AH) (Q : Res → AH → Prop) : Prop := HL Try.prog (cAt code7 [.r, .r, .r, .r, .r, .r, .r, .r, .l, .r, .i, .i]) (mkA 136 [(0, t0), (1, t1), (7, t7), (8, t8), (9, t9), (12, t12)]) h (ctxAt Try.prog L7 code7 [.r, .r, .r, .r, .r, .r, .r, .r, .l, .r, .i] (retK Try.prog res7 Q))
noncomputable def H7_20 (t0 t1 t7 t8 t9 t12 t13 t14 : Value) (h : AH) (Q : Res → AH → Prop) : Prop := HL Try.prog (cAt code7 [.r, .r, .r, .r, .r, .r, .r, .r, .l, .r, .i, .i, .r, .l, .i, .r, .l, .r, .i, .i]) (mkA 136 [(0, t0), (1, t1), (7, t7), (8, t8), (9, t9), (12, t12), (13, t13), (14, t14)]) h (ctxAt Try.prog L7 code7 [.r, .r, .r, .r, .r, .r, .r, .r, .l, .r, .i, .i, .r, .l, .i, .r, .l, .r, .i] (retK Try.prog res7 Q))
noncomputable def X7_20 (t0 t1 t7 t8 t9 t12 t13 t14 : Value) (h : AH) (Q : Res → AH → Prop) : Prop :=
  let t93 : Value := t14
  let t94 : Value := t1
  bq (lenL t94) fun t95 =>
  bq (binV Try.prog .lss 3 (.tmp 93) (.tmp 95) t93 t95 h) fun t96 =>
  condP (some t96)
  (let t99 : Value := t13
  let t100 : Value := t99
  guardQ t100 false h (fun k => k t1 h) fun t101 h =>
  guardQ t100 false h (fun k => k t14 h) fun t102 h =>
  guardQ t100 false h (fun k => bq (ia 3 t101 t102) fun v => k v h) fun t103 h =>
  guardQ t100 false h (fun k => bq (ldN 3 h t103) fun v => k v h) fun t104 h =>
  guardQ t100 false h (fun k => k t0 h) fun t105 h =>
  guardQ t100 false h (fun k => k t12 h) fun t106 h =>
  guardQ t100 false h (fun k => bq (ia 3 t105 t106) fun v => k v h) fun t107 h =>
  guardQ t100 false h (fun k => bq (ldN 3 h t107) fun v => k v h) fun t108 h =>
  guardQ t100 false h (fun k => bq (binV Try.prog .eql 25 (.tmp 104) (.tmp 108) t104 t108 h) fun v => k v h) fun t109 h =>
  bq (pickV t100 (Value.bool true) t109) fun t110 =>
  let t13 : Value := t110
  let t97 : Value := t14
  bq (binV Try.prog .add 3 (.tmp 97) (.const (Value.int .i64 1)) t97 (Value.int .i64 1) h) fun t98 =>
  let t14 : Value := t98
  H7_20 t0 t1 t7 t8 t9 t12 t13 t14 h Q)
  (let t111 : Value := t9
  let t112 : Value := t0
  let t113 : Value := t12
  bq (ia 3 t112 t113) fun t114 =>
  bq (ldN 3 h t114) fun t115 =>
  let t116 : Value := t7
  HC Try.prog 13 (([] : List Value) ++ [t111, t115, t116] ++ ([] : List Value)).toArray h (resK (fun t117 h => 
  bq (lenL t117) fun t118 =>
  bq (binV Try.prog .gtr 3 (.tmp 118) (.const (Value.int .i64 0)) t118 (Value.int .i64 0) h) fun t119 =>
  let t120 : Value := t13
  bq (binV Try.prog .neq 4 (.tmp 119) (.tmp 120) t119 t120 h) fun t121 =>
  condP (some t121)
  (let t6 : Value := (Value.bool false)
  Q (.ret t6) h)
  (let t91 : Value := t12
  bq (binV Try.prog .add 3 (.tmp 91) (.const (Value.int .i64 1)) t91 (Value.int .i64 1) h) fun t92 =>
  let t12 : Value := t92
  H7_16 t0 t1 t7 t8 t9 t12 h Q)) (fun v h => Q (.pan v) h)))
theorem X7_20_eq (t0 t1 t7 t8 t9 t12 t13 t14 : Value) (h : AH) (Q : Res → AH → Prop) : X7_20 t0 t1 t7 t8 t9 t12 t13 t14 h Q = wpC Try.prog L7 (cAt code7 [.r, .r, .r, .r, .r, .r, .r, .r, .l, .r, .i, .i, .r, .l, .i, .r, .l, .r, .i, .i]) (mkA 136 [(0, t0), (1, t1), (7, t7), (8, t8), (9, t9), (12, t12), (13, t13), (14, t14)]) h (ctxAt Try.prog L7 code7 [.r, .r, .r, .r, .r, .r, .r, .r, .l, .r, .i, .i, .r, .l, .i, .r, .l, .r, .i, .i] (retK Try.prog res7 Q)) := by kernel_rfl
theorem X7_20_ok {t0 t1 t7 t8 t9 t12 t13 t14 : Value} {h : AH} {Q : Res → AH → Prop} (H : X7_20 t0 t1 t7 t8 t9 t12 t13 t14 h Q) : H7_20 t0 t1 t7 t8 t9 t12 t13 t14 h Q := HL.step (L := L7) ((X7_20_eq t0 t1 t7 t8 t9 t12 t13 t14 h Q).mp H)
noncomputable def X7_16 (t0 t1 t7 t8 t9 t12 : Value) (h : AH) (Q : Res → AH → Prop) : Prop :=
  let t87 : Value := t12
  let t88 : Value := t0
  bq (lenL t88) fun t89 =>
  bq (binV Try.prog .lss 3 (.tmp 87) (.tmp 89) t87 t89 h) fun t90 =>
  condP (some t90)
  (let t13 : Value := (Value.bool false)
  let t14 : Value := (Value.int .i64 0)
  H7_20 t0 t1 t7 t8 t9 t12 t13 t14 h Q)
  (let t122 : Value := t9
  let t123 : Value := t7
  HC Try.prog 11 (([] : List Value) ++ [t122, t123] ++ ([] : List Value)).toArray h (resK (fun t124 h => 
  bq (lenL t124) fun t125 =>
  bq (binV Try.prog .eql 3 (.tmp 125) (.const (Value.int .i64 1)) t125 (Value.int .i64 1) h) fun t126 =>
  let t127 : Value := t126
  guardQ t127 true h (fun k => k t9 h) fun t128 h =>
  guardQ t127 true h (fun k => k t7 h) fun t129 h =>
  guardQ t127 true h (fun k => k t8 h) fun t130 h =>
  guardQ t127 true h (fun k => bq (binV Try.prog .add 3 (.tmp 129) (.tmp 130) t129 t130 h) fun v => k v h) fun t131 h =>
  guardQ t127 true h (fun k => HC Try.prog 11 (([] : List Value) ++ [t128, t131] ++ ([] : List Value)).toArray h (resK k (fun v h => Q (.pan v) h))) fun t132 h =>
  guardQ t127 true h (fun k => bq (lenL t132) fun v => k v h) fun t133 h =>
  guardQ t127 true h (fun k => bq (binV Try.prog .eql 3 (.tmp 133) (.const (Value.int .i64 0)) t133 (Value.int .i64 0) h) fun v => k v h) fun t134 h =>
  bq (pickV t127 t134 (Value.bool false)) fun t135 =>
  let t6 : Value := t135
  Q (.ret t6) h) (fun v h => Q (.pan v) h)))
theorem X7_16_eq (t0 t1 t7 t8 t9 t12 : Value) (h : AH) (Q : Res → AH → Prop) : X7_16 t0 t1 t7 t8 t9 t12 h Q = wpC Try.prog L7 (cAt code7 [.r, .r, .r, .r, .r, .r, .r, .r, .l, .r, .i, .i]) (mkA 136 [(0, t0), (1, t1), (7, t7), (8, t8), (9, t9), (12, t12)]) h (ctxAt Try.prog L7 code7 [.r, .r, .r, .r, .r, .r, .r, .r, .l, .r, .i, .i] (retK Try.prog res7 Q)) := by kernel_rfl
theorem X7_16_ok {t0 t1 t7 t8 t9 t12 : Value} {h : AH} {Q : Res → AH → Prop} (H : X7_16 t0 t1 t7 t8 t9 t12 h Q) : H7_16 t0 t1 t7 t8 t9 t12 h Q := HL.step (L := L7) ((X7_16_eq t0 t1 t7 t8 t9 t12 h Q).mp H)
noncomputable def X7_10 (t0 t1 t7 t8 t9 t10 : Value) (h : AH) (Q : Res → AH → Prop) : Prop :=
  let t49 : Value := t10
  let t50 : Value := t1
  bq (lenL t50) fun t51 =>
  bq (binV Try.prog .lss 3 (.tmp 49) (.tmp 51) t49 t51 h) fun t52 =>
  condP (some t52)
  (let t55 : Value := t9
  let t56 : Value := t1
  let t57 : Value := t10
  bq (ia 3 t56 t57) fun t58 =>
  bq (ldN 3 h t58) fun t59 =>
  let t60 : Value := t7
  let t61 : Value := t8
  bq (binV Try.prog .add 3 (.tmp 60) (.tmp 61) t60 t61 h) fun t62 =>
  bq (binV Try.prog .sub 3 (.tmp 62) (.const (Value.int .i64 1)) t62 (Value.int .i64 1) h) fun t63 =>
  HC Try.prog 13 (([] : List Value) ++ [t55, t59, t63] ++ ([] : List Value)).toArray h (resK (fun t64 h => 
  let t11 : Value := t64
  let t65 : Value := t11
  bq (lenL t65) fun t66 =>
  bq (binV Try.prog .neq 3 (.tmp 66) (.const (Value.int .i64 1)) t66 (Value.int .i64 1) h) fun t67 =>
  let t68 : Value := t67
  guardQ t68 false h (fun k => k t11 h) fun t69 h =>
  guardQ t68 false h (fun k => bq (ia 1 t69 (Value.int .i64 0)) fun v => k v h) fun t70 h =>
  guardQ t68 false h (fun k => bq (ld1 h t70) fun v => k v h) fun t71 h =>
  guardQ t68 false h (fun k => bq (binV Try.prog .neq 3 (.tmp 71) (.const (Value.int .i64 7)) t71 (Value.int .i64 7) h) fun v => k v h) fun t72 h =>
  bq (pickV t68 (Value.bool true) t72) fun t73 =>
  let t74 : Value := t73
  guardQ t74 false h (fun k => k t9 h) fun t75 h =>
  guardQ t74 false h (fun k => k t1 h) fun t76 h =>
  guardQ t74 false h (fun k => k t10 h) fun t77 h =>
  guardQ t74 false h (fun k => bq (ia 3 t76 t77) fun v => k v h) fun t78 h =>
  guardQ t74 false h (fun k => bq (ldN 3 h t78) fun v => k v h) fun t79 h =>
  guardQ t74 false h (fun k => k t7 h) fun t80 h =>
  guardQ t74 false h (fun k => k t8 h) fun t81 h =>
  guardQ t74 false h (fun k => bq (binV Try.prog .add 3 (.tmp 80) (.tmp 81) t80 t81 h) fun v => k v h) fun t82 h =>
  guardQ t74 false h (fun k => HC Try.prog 13 (([] : List Value) ++ [t75, t79, t82] ++ ([] : List Value)).toArray h (resK k (fun v h => Q (.pan v) h))) fun t83 h =>
  guardQ t74 false h (fun k => bq (lenL t83) fun v => k v h) fun t84 h =>
  guardQ t74 false h (fun k => bq (binV Try.prog .neq 3 (.tmp 84) (.const (Value.int .i64 0)) t84 (Value.int .i64 0) h) fun v => k v h) fun t85 h =>
  bq (pickV t74 (Value.bool true) t85) fun t86 =>
  condP (some t86)
  (let t6 : Value := (Value.bool false)
  Q (.ret t6) h)
  (let t53 : Value := t10
  bq (binV Try.prog .add 3 (.tmp 53) (.const (Value.int .i64 1)) t53 (Value.int .i64 1) h) fun t54 =>
  let t10 : Value := t54
  H7_10 t0 t1 t7 t8 t9 t10 h Q)) (fun v h => Q (.pan v) h)))
  (let t12 : Value := (Value.int .i64 0)
  H7_16 t0 t1 t7 t8 t9 t12 h Q)
theorem X7_10_eq (t0 t1 t7 t8 t9 t10 : Value) (h : AH) (Q : Res → AH → Prop) : X7_10 t0 t1 t7 t8 t9 t10 h Q = wpC Try.prog L7 (cAt code7 [.r, .r, .r, .r, .r, .r, .r, .l, .r, .i, .i]) (mkA 136 [(0, t0), (1, t1), (7, t7), (8, t8), (9, t9), (10, t10)]) h (ctxAt Try.prog L7 code7 [.r, .r, .r, .r, .r, .r, .r, .l, .r, .i, .i] (retK Try.prog res7 Q)) := by kernel_rfl
theorem X7_10_ok {t0 t1 t7 t8 t9 t10 : Value} {h : AH} {Q : Res → AH → Prop} (H : X7_10 t0 t1 t7 t8 t9 t10 h Q) : H7_10 t0 t1 t7 t8 t9 t10 h Q := HL.step (L := L7) ((X7_10_eq t0 t1 t7 t8 t9 t10 h Q).mp H)
noncomputable def X7_6 (t0 t1 t7 t8 : Value) (h : AH) (Q : Res → AH → Prop) : Prop :=
  let t35 : Value := t8
  HC Try.prog 22 (([] : List Value) ++ [(Value.int .i64 1), t35] ++ ([] : List Value)).toArray h (resK (fun t36 h => 
  let t9 : Value := t36
  let t37 : Value := t9
  let t38 : Value := t7
  bq (bs 25 #[] 0 h []) fun r => (fun t39 h => 
  let t40 : Value := t0
  bq (apT 25 3 24 (some (Value.agg #[(Value.int .i64 0), (Value.int .i64 0), (Value.int .i64 0)])) h t39 t40) fun r => (fun t41 h => 
  HC Try.prog 21 (([] : List Value) ++ [t37, (Value.int .i64 7), (Value.complex .f64 0 0), t38, t41] ++ ([] : List Value)).toArray h (resK (fun t42 h => 
  let t43 : Value := t9
  let t44 : Value := t7
  bq (bs 25 #[] 0 h []) fun r => (fun t45 h => 
  let t46 : Value := t1
  bq (apT 25 3 24 (some (Value.agg #[(Value.int .i64 0), (Value.int .i64 0), (Value.int .i64 0)])) h t45 t46) fun r => (fun t47 h => 
  HC Try.prog 21 (([] : List Value) ++ [t43, (Value.int .i64 7), (Value.complex .f64 4607182418800017408 0), t44, t47] ++ ([] : List Value)).toArray h (resK (fun t48 h => 
  let t10 : Value := (Value.int .i64 0)
  H7_10 t0 t1 t7 t8 t9 t10 h Q) (fun v h => Q (.pan v) h))) r.1 r.2) r.1 r.2) (fun v h => Q (.pan v) h))) r.1 r.2) r.1 r.2) (fun v h => Q (.pan v) h))
theorem X7_6_eq (t0 t1 t7 t8 : Value) (h : AH) (Q : Res → AH → Prop) : X7_6 t0 t1 t7 t8 h Q = wpC Try.prog L7 (cAt code7 [.r, .r, .r, .r]) (mkA 136 [(0, t0), (1, t1), (7, t7), (8, t8)]) h (ctxAt Try.prog L7 code7 [.r, .r, .r, .r] (retK Try.prog res7 Q)) := by kernel_rfl
theorem X7_6_ok {t0 t1 t7 t8 : Value} {h : AH} {Q : Res → AH → Prop} (H : X7_6 t0 t1 t7 t8 h Q) : J7_6 t0 t1 t7 t8 h Q := (X7_6_eq t0 t1 t7 t8 h Q).mp H
noncomputable def K7 (t0 t1 t7 t8 : Value) (h : AH) (Q : Res → AH → Prop) : Prop := (ctxAt Try.prog L7 code7 [.r, .r, .r, .l, .r, .l] (retK Try.prog res7 Q)) .normal (mkA 136 [(0, t0), (1, t1), (7, t7), (8, t8)]) h
theorem K7_eq (t0 t1 t7 t8 : Value) (h : AH) (Q : Res → AH → Prop) : J7_6 t0 t1 t7 t8 h Q = K7 t0 t1 t7 t8 h Q := by kernel_rfl
noncomputable def X7 (t0 t1 t2 : Value) (h : AH) (Q : Res → AH → Prop) : Prop :=
  (fun t5 h => 
  let t6 : Value := (Value.bool false)
  bq (iaA 2 1 t5 (Value.int .i64 0)) fun t15 =>
  bq (ld1 h t15) fun t16 =>
  bq (iaA 2 1 t5 (Value.int .i64 1)) fun t17 =>
  bq (ld1 h t17) fun t18 =>
  let t7 : Value := t16
  let t8 : Value := t18
  HC Try.prog 8 (([] : List Value) ++ [] ++ ([] : List Value)).toArray h (resK (fun t19 h => 
  bq (unV Try.prog .not t19) fun t20 =>
  condP (some t20)
  (let t6 : Value := (Value.bool false)
  Q (.ret t6) h)
  (let t21 : Value := t7
  bq (binV Try.prog .lss 3 (.tmp 21) (.const (Value.int .i64 0)) t21 (Value.int .i64 0) h) fun t22 =>
  let t23 : Value := t22
  guardQ t23 false h (fun k => k t7 h) fun t24 h =>
  guardQ t23 false h (fun k => bq (binV Try.prog .gtr 3 (.tmp 24) (.const (Value.int .i64 1073741824)) t24 (Value.int .i64 1073741824) h) fun v => k v h) fun t25 h =>
  bq (pickV t23 (Value.bool true) t25) fun t26 =>
  let t27 : Value := t26
  guardQ t27 false h (fun k => k t8 h) fun t28 h =>
  guardQ t27 false h (fun k => bq (binV Try.prog .lss 3 (.tmp 28) (.const (Value.int .i64 1)) t28 (Value.int .i64 1) h) fun v => k v h) fun t29 h =>
  bq (pickV t27 (Value.bool true) t29) fun t30 =>
  let t31 : Value := t30
  guardQ t31 false h (fun k => k t8 h) fun t32 h =>
  guardQ t31 false h (fun k => bq (binV Try.prog .gtr 3 (.tmp 32) (.const (Value.int .i64 1073741824)) t32 (Value.int .i64 1073741824) h) fun v => k v h) fun t33 h =>
  bq (pickV t31 (Value.bool true) t33) fun t34 =>
  condP (some t34)
  (let t7 : Value := (Value.int .i64 4)
  let t8 : Value := (Value.int .i64 3)
  K7 t0 t1 t7 t8 h Q)
  (J7_6 t0 t1 t7 t8 h Q))) (fun v h => Q (.pan v) h))) (opNew h 22 t2.cells).1 (opNew h 22 t2.cells).2
theorem X7_eq (t0 t1 t2 : Value) (h : AH) (Q : Res → AH → Prop) : X7 t0 t1 t2 h Q = wpC Try.prog L7 code7 (argA [t0, t1, t2] Try.f7.ntmps) h (retK Try.prog res7 Q) := by kernel_rfl
theorem X7_body : Try.f7.body = some code7 := by kernel_rfl
theorem X7_ok {t0 t1 t2 : Value} {h : AH} {Q : Res → AH → Prop} (H : X7 t0 t1 t2 h Q) : HC Try.prog 7 [t0, t1, t2].toArray h Q := HC.body Try.func7 X7_body ((X7_eq t0 t1 t2 h Q).mp H)
end Go.Proofs.Ythjdohbkadpnjaa.X
