/-
  PRINTED BY xgen.py (this session's own): what must hold ahead of functions.
-/
import Derived.Test.YthjdohbkadpnjaaAbC
import Derived.Test.YthjdohbkadpnjaaProg
import Derived.KernelRfl
namespace Go.Proofs.Ythjdohbkadpnjaa.X
open Go.Ab
set_option linter.unusedVariables false
set_option maxRecDepth 100000
-- 17 (*mahout/blocks.Manager).Work
noncomputable def code17 : Code := match Try.f17.body with | some c => c | none => .skip
noncomputable def res17 : List ResultVar := Try.f17.results.toList
def L17 : Nat → Option (List Nat) := fun r => if r = 5 then some [0, 1, 3, 9, 30, 31, 32] else if r = 10 then some [0, 1, 3, 9, 30, 31, 32] else if r = 13 then some [0, 1, 9, 12, 53, 54, 55] else if r = 18 then some [0, 1, 9, 12, 53, 54, 55] else if r = 20 then some [0, 9, 12, 82, 83, 84] else if r = 23 then some [0, 9, 12, 18, 82, 83, 84, 96, 97, 98] else if r = 28 then some [0, 9, 12, 18, 82, 83, 84, 96, 97, 98] else none
noncomputable def H17_5 (t0 t1 t3 t9 t30 t31 t32 : Value) (h : AH) (Q : Res → AH → Prop) : Prop := HL Try.prog (cAt code17 [.r, .r, .r, .l, .r, .i, .i]) (mkA 136 [(0, t0), (1, t1), (3, t3), (9, t9), (30, t30), (31, t31), (32, t32)]) h (ctxAt Try.prog L17 code17 [.r, .r, .r, .l, .r, .i] (retK Try.prog res17 Q))
noncomputable def J17_10 (t0 t1 t3 t9 t30 t31 t32 : Value) (h : AH) (Q : Res → AH → Prop) : Prop := wpC Try.prog L17 (cAt code17 [.r, .r, .r, .l, .r, .i, .i, .r, .r, .r]) (mkA 136 [(0, t0), (1, t1), (3, t3), (9, t9), (30, t30), (31, t31), (32, t32)]) h (ctxAt Try.prog L17 code17 [.r, .r, .r, .l, .r, .i, .i, .r, .r, .r] (retK Try.prog res17 Q))
noncomputable def H17_13 (t0 t1 t9 t12 t53 t54 t55 : Value) (h : AH) (Q : Res → AH → Prop) : Prop := HL Try.prog (cAt code17 [.r, .r, .r, .r, .r, .l, .r, .i, .i]) (mkA 136 [(0, t0), (1, t1), (9, t9), (12, t12), (53, t53), (54, t54), (55, t55)]) h (ctxAt Try.prog L17 code17 [.r, .r, .r, .r, .r, .l, .r, .i] (retK Try.prog res17 Q))
noncomputable def J17_18 (t0 t1 t9 t12 t53 t54 t55 : Value) (h : AH) (Q : Res → AH → Prop) : Prop := wpC Try.prog L17 (cAt code17 [.r, .r, .r, .r, .r, .l, .r, .i, .i, .r, .r, .r]) (mkA 136 [(0, t0), (1, t1), (9, t9), (12, t12), (53, t53), (54, t54), (55, t55)]) h (ctxAt Try.prog L17 code17 [.r, .r, .r, .r, .r, .l, .r, .i, .i, .r, .r, .r] (retK Try.prog res17 Q))
noncomputable def H17_20 (t0 t9 t12 t82 t83 t84 : Value) (h : AH) (Q : Res → AH → Prop) : Prop := HL Try.prog (cAt code17 [.r, .r, .r, .r, .r, .r, .l, .r, .i, .i]) (mkA 136 [(0, t0), (9, t9), (12, t12), (82, t82), (83, t83), (84, t84)]) h (ctxAt Try.prog L17 code17 [.r, .r, .r, .r, .r, .r, .l, .r, .i] (retK Try.prog res17 Q))
noncomputable def H17_23 (t0 t9 t12 t18 t82 t83 t84 t96 t97 t98 : Value) (h : AH) (Q : Res → AH → Prop) : Prop := HL Try.prog (cAt code17 [.r, .r, .r, .r, .r, .r, .l, .r, .i, .i, .r, .r, .l, .i, .r, .r, .i, .i]) (mkA 136 [(0, t0), (9, t9), (12, t12), (18, t18), (82, t82), (83, t83), (84, t84), (96, t96), (97, t97), (98, t98)]) h (ctxAt Try.prog L17 code17 [.r, .r, .r, .r, .r, .r, .l, .r, .i, .i, .r, .r, .l, .i, .r, .r, .i] (retK Try.prog res17 Q))
noncomputable def J17_28 (t0 t9 t12 t18 t82 t83 t84 t96 t97 t98 : Value) (h : AH) (Q : Res → AH → Prop) : Prop := wpC Try.prog L17 (cAt code17 [.r, .r, .r, .r, .r, .r, .l, .r, .i, .i, .r, .r, .l, .i, .r, .r, .i, .i, .r, .r, .r]) (mkA 136 [(0, t0), (9, t9), (12, t12), (18, t18), (82, t82), (83, t83), (84, t84), (96, t96), (97, t97), (98, t98)]) h (ctxAt Try.prog L17 code17 [.r, .r, .r, .r, .r, .r, .l, .r, .i, .i, .r, .r, .l, .i, .r, .r, .i, .i, .r, .r, .r] (retK Try.prog res17 Q))
noncomputable def X17_28 (t0 t9 t12 t18 t82 t83 t84 t96 t97 t98 : Value) (h : AH) (Q : Res → AH → Prop) : Prop :=
  bq (binV Try.prog .add 3 (.tmp 98) (.const (Value.int .i64 1)) t98 (Value.int .i64 1) h) fun t130 =>
  let t98 : Value := t130
  H17_23 t0 t9 t12 t18 t82 t83 t84 t96 t97 t98 h Q
theorem X17_28_eq (t0 t9 t12 t18 t82 t83 t84 t96 t97 t98 : Value) (h : AH) (Q : Res → AH → Prop) : X17_28 t0 t9 t12 t18 t82 t83 t84 t96 t97 t98 h Q = wpC Try.prog L17 (cAt code17 [.r, .r, .r, .r, .r, .r, .l, .r, .i, .i, .r, .r, .l, .i, .r, .r, .i, .i, .r, .r, .r]) (mkA 136 [(0, t0), (9, t9), (12, t12), (18, t18), (82, t82), (83, t83), (84, t84), (96, t96), (97, t97), (98, t98)]) h (ctxAt Try.prog L17 code17 [.r, .r, .r, .r, .r, .r, .l, .r, .i, .i, .r, .r, .l, .i, .r, .r, .i, .i, .r, .r, .r] (retK Try.prog res17 Q)) := by kernel_rfl
theorem X17_28_ok {t0 t9 t12 t18 t82 t83 t84 t96 t97 t98 : Value} {h : AH} {Q : Res → AH → Prop} (H : X17_28 t0 t9 t12 t18 t82 t83 t84 t96 t97 t98 h Q) : J17_28 t0 t9 t12 t18 t82 t83 t84 t96 t97 t98 h Q := (X17_28_eq t0 t9 t12 t18 t82 t83 t84 t96 t97 t98 h Q).mp H
noncomputable def X17_23 (t0 t9 t12 t18 t82 t83 t84 t96 t97 t98 : Value) (h : AH) (Q : Res → AH → Prop) : Prop :=
  bq (binV Try.prog .lss 3 (.tmp 98) (.tmp 97) t98 t97 h) fun t99 =>
  condP (some t99)
  (bq (ia 3 t96 t98) fun t100 =>
  bq (ldN 3 h t100) fun t101 =>
  (fun t20 h => 
  bq (stN 3 h t20 t101) fun h => (fun _ h => 
  let t103 : Value := t12
  bq (fa 0 1 t20) fun t104 =>
  bq (ld1 h t104) fun t105 =>
  bq (opLookup Try.prog h 93 t103 t105 true) fun t106 =>
  let t102 : Value := t106
  bq (opExtract t102 0) fun t107 =>
  bq (opExtract t102 1) fun t108 =>
  let t21 : Value := t107
  let t22 : Value := t108
  let t109 : Value := t22
  let t110 : Value := t109
  guardQ t110 true h (fun k => k t21 h) fun t111 h =>
  guardQ t110 true h (fun k => bq (fa 1 1 t20) fun v => k v h) fun t112 h =>
  guardQ t110 true h (fun k => bq (ld1 h t112) fun v => k v h) fun t113 h =>
  guardQ t110 true h (fun k => bq (binV Try.prog .gtr 3 (.tmp 111) (.tmp 113) t111 t113 h) fun v => k v h) fun t114 h =>
  bq (pickV t110 t114 (Value.bool false)) fun t115 =>
  let t116 : Value := t115
  guardQ t116 true h (fun k => k t9 h) fun t117 h =>
  guardQ t116 true h (fun k => bq (nilV t117) fun v => k v h) fun t118 h =>
  guardQ t116 true h (fun k => bq (fa 3 1 t118) fun v => k v h) fun t119 h =>
  guardQ t116 true h (fun k => bq (ld1 h t119) fun v => k v h) fun t120 h =>
  guardQ t116 true h (fun k => bq (ldN 3 h t20) fun v => k v h) fun t121 h =>
  guardQ t116 true h (fun k => bq (opLookup Try.prog h 72 t120 t121 false) fun v => k v h) fun t122 h =>
  guardQ t116 true h (fun k => bq (binV Try.prog .eql 3 (.tmp 122) (.const (Value.int .i64 0)) t122 (Value.int .i64 0) h) fun v => k v h) fun t123 h =>
  bq (pickV t116 t123 (Value.bool false)) fun t124 =>
  condP (some t124)
  (let t125 : Value := t9
  bq (ldN 3 h t20) fun t126 =>
  let t127 : Value := t18
  bq (bd #[(Value.int .i64 0), (Value.int .i64 0), (Value.int .i64 0), (Value.int .i64 0), (Value.int .i64 0), (Value.int .i64 0)] [(0, 1, (Value.int .i64 2)), (1, 3, t126), (4, 1, t127), (5, 1, (Value.int .i64 0))]) fun t128 =>
  HC Try.prog 39 (([] : List Value) ++ [t125, t128] ++ ([] : List Value)).toArray h (resK (fun t129 h => 
  J17_28 t0 t9 t12 t18 t82 t83 t84 t96 t97 t98 h Q) (fun v h => Q (.pan v) h)))
  (J17_28 t0 t9 t12 t18 t82 t83 t84 t96 t97 t98 h Q)) undef h) (opNew h 25 #[(Value.int .i64 0), (Value.int .i64 0), (Value.int .i64 0)]).1 (opNew h 25 #[(Value.int .i64 0), (Value.int .i64 0), (Value.int .i64 0)]).2)
  (bq (binV Try.prog .add 3 (.tmp 84) (.const (Value.int .i64 1)) t84 (Value.int .i64 1) h) fun t131 =>
  let t84 : Value := t131
  H17_20 t0 t9 t12 t82 t83 t84 h Q)
theorem X17_23_eq (t0 t9 t12 t18 t82 t83 t84 t96 t97 t98 : Value) (h : AH) (Q : Res → AH → Prop) : X17_23 t0 t9 t12 t18 t82 t83 t84 t96 t97 t98 h Q = wpC Try.prog L17 (cAt code17 [.r, .r, .r, .r, .r, .r, .l, .r, .i, .i, .r, .r, .l, .i, .r, .r, .i, .i]) (mkA 136 [(0, t0), (9, t9), (12, t12), (18, t18), (82, t82), (83, t83), (84, t84), (96, t96), (97, t97), (98, t98)]) h (ctxAt Try.prog L17 code17 [.r, .r, .r, .r, .r, .r, .l, .r, .i, .i, .r, .r, .l, .i, .r, .r, .i, .i] (retK Try.prog res17 Q)) := by kernel_rfl
theorem X17_23_ok {t0 t9 t12 t18 t82 t83 t84 t96 t97 t98 : Value} {h : AH} {Q : Res → AH → Prop} (H : X17_23 t0 t9 t12 t18 t82 t83 t84 t96 t97 t98 h Q) : H17_23 t0 t9 t12 t18 t82 t83 t84 t96 t97 t98 h Q := HL.step (L := L17) ((X17_23_eq t0 t9 t12 t18 t82 t83 t84 t96 t97 t98 h Q).mp H)
noncomputable def X17_20 (t0 t9 t12 t82 t83 t84 : Value) (h : AH) (Q : Res → AH → Prop) : Prop :=
  bq (binV Try.prog .lss 3 (.tmp 84) (.tmp 83) t84 t83 h) fun t85 =>
  condP (some t85)
  (bq (ia 1 t82 t84) fun t86 =>
  bq (ld1 h t86) fun t87 =>
  let t18 : Value := t87
  let t88 : Value := t0
  bq (nilV t88) fun t89 =>
  bq (fa 2 1 t89) fun t90 =>
  bq (ld1 h t90) fun t91 =>
  let t92 : Value := t18
  bq (opLookup Try.prog h 85 t91 t92 false) fun t93 =>
  bq (fd1 2 t93) fun t94 =>
  HC Try.prog 37 (([] : List Value) ++ [t94] ++ ([] : List Value)).toArray h (resK (fun t95 h => 
  HC Try.prog 36 (([] : List Value) ++ [t95, (Value.func (.func 38) #[] #[])] ++ ([] : List Value)).toArray h (resK (fun t96 h => 
  bq (lenL t96) fun t97 =>
  let t98 : Value := (Value.int .i64 0)
  H17_23 t0 t9 t12 t18 t82 t83 t84 t96 t97 t98 h Q) (fun v h => Q (.pan v) h))) (fun v h => Q (.pan v) h)))
  (let t132 : Value := t9
  bq (nilV t132) fun t133 =>
  bq (fa 2 1 t133) fun t134 =>
  bq (ld1 h t134) fun t135 =>
  let t8 : Value := t135
  Q (.ret t8) h)
theorem X17_20_eq (t0 t9 t12 t82 t83 t84 : Value) (h : AH) (Q : Res → AH → Prop) : X17_20 t0 t9 t12 t82 t83 t84 h Q = wpC Try.prog L17 (cAt code17 [.r, .r, .r, .r, .r, .r, .l, .r, .i, .i]) (mkA 136 [(0, t0), (9, t9), (12, t12), (82, t82), (83, t83), (84, t84)]) h (ctxAt Try.prog L17 code17 [.r, .r, .r, .r, .r, .r, .l, .r, .i, .i] (retK Try.prog res17 Q)) := by kernel_rfl
theorem X17_20_ok {t0 t9 t12 t82 t83 t84 : Value} {h : AH} {Q : Res → AH → Prop} (H : X17_20 t0 t9 t12 t82 t83 t84 h Q) : H17_20 t0 t9 t12 t82 t83 t84 h Q := HL.step (L := L17) ((X17_20_eq t0 t9 t12 t82 t83 t84 h Q).mp H)
noncomputable def X17_18 (t0 t1 t9 t12 t53 t54 t55 : Value) (h : AH) (Q : Res → AH → Prop) : Prop :=
  bq (binV Try.prog .add 3 (.tmp 55) (.const (Value.int .i64 1)) t55 (Value.int .i64 1) h) fun t79 =>
  let t55 : Value := t79
  H17_13 t0 t1 t9 t12 t53 t54 t55 h Q
theorem X17_18_eq (t0 t1 t9 t12 t53 t54 t55 : Value) (h : AH) (Q : Res → AH → Prop) : X17_18 t0 t1 t9 t12 t53 t54 t55 h Q = wpC Try.prog L17 (cAt code17 [.r, .r, .r, .r, .r, .l, .r, .i, .i, .r, .r, .r]) (mkA 136 [(0, t0), (1, t1), (9, t9), (12, t12), (53, t53), (54, t54), (55, t55)]) h (ctxAt Try.prog L17 code17 [.r, .r, .r, .r, .r, .l, .r, .i, .i, .r, .r, .r] (retK Try.prog res17 Q)) := by kernel_rfl
theorem X17_18_ok {t0 t1 t9 t12 t53 t54 t55 : Value} {h : AH} {Q : Res → AH → Prop} (H : X17_18 t0 t1 t9 t12 t53 t54 t55 h Q) : J17_18 t0 t1 t9 t12 t53 t54 t55 h Q := (X17_18_eq t0 t1 t9 t12 t53 t54 t55 h Q).mp H
noncomputable def X17_13 (t0 t1 t9 t12 t53 t54 t55 : Value) (h : AH) (Q : Res → AH → Prop) : Prop :=
  bq (binV Try.prog .lss 3 (.tmp 55) (.tmp 54) t55 t54 h) fun t56 =>
  condP (some t56)
  (bq (ia 2 t53 t55) fun t57 =>
  bq (ldN 2 h t57) fun t58 =>
  (fun t14 h => 
  bq (stN 2 h t14 t58) fun h => (fun _ h => 
  let t60 : Value := t12
  bq (fa 0 1 t14) fun t61 =>
  bq (ld1 h t61) fun t62 =>
  bq (opLookup Try.prog h 93 t60 t62 true) fun t63 =>
  let t59 : Value := t63
  bq (opExtract t59 0) fun t64 =>
  bq (opExtract t59 1) fun t65 =>
  let t15 : Value := t64
  let t16 : Value := t65
  let t66 : Value := t16
  bq (unV Try.prog .not t66) fun t67 =>
  let t68 : Value := t67
  guardQ t68 false h (fun k => k t15 h) fun t69 h =>
  guardQ t68 false h (fun k => bq (fa 1 1 t14) fun v => k v h) fun t70 h =>
  guardQ t68 false h (fun k => bq (ld1 h t70) fun v => k v h) fun t71 h =>
  guardQ t68 false h (fun k => bq (binV Try.prog .lss 3 (.tmp 69) (.tmp 71) t69 t71 h) fun v => k v h) fun t72 h =>
  bq (pickV t68 (Value.bool true) t72) fun t73 =>
  condP (some t73)
  (let t74 : Value := t12
  bq (fa 0 1 t14) fun t75 =>
  bq (ld1 h t75) fun t76 =>
  bq (fa 1 1 t14) fun t77 =>
  bq (ld1 h t77) fun t78 =>
  bq (opMapUpdate Try.prog h 93 t74 t76 t78) fun h => (fun _ h => 
  J17_18 t0 t1 t9 t12 t53 t54 t55 h Q) undef h)
  (J17_18 t0 t1 t9 t12 t53 t54 t55 h Q)) undef h) (opNew h 41 #[(Value.int .i64 0), (Value.int .i64 0)]).1 (opNew h 41 #[(Value.int .i64 0), (Value.int .i64 0)]).2)
  (let t80 : Value := t0
  let t81 : Value := t1
  HC Try.prog 11 (([] : List Value) ++ [t80, t81] ++ ([] : List Value)).toArray h (resK (fun t82 h => 
  bq (lenL t82) fun t83 =>
  let t84 : Value := (Value.int .i64 0)
  H17_20 t0 t9 t12 t82 t83 t84 h Q) (fun v h => Q (.pan v) h)))
theorem X17_13_eq (t0 t1 t9 t12 t53 t54 t55 : Value) (h : AH) (Q : Res → AH → Prop) : X17_13 t0 t1 t9 t12 t53 t54 t55 h Q = wpC Try.prog L17 (cAt code17 [.r, .r, .r, .r, .r, .l, .r, .i, .i]) (mkA 136 [(0, t0), (1, t1), (9, t9), (12, t12), (53, t53), (54, t54), (55, t55)]) h (ctxAt Try.prog L17 code17 [.r, .r, .r, .r, .r, .l, .r, .i, .i] (retK Try.prog res17 Q)) := by kernel_rfl
theorem X17_13_ok {t0 t1 t9 t12 t53 t54 t55 : Value} {h : AH} {Q : Res → AH → Prop} (H : X17_13 t0 t1 t9 t12 t53 t54 t55 h Q) : H17_13 t0 t1 t9 t12 t53 t54 t55 h Q := HL.step (L := L17) ((X17_13_eq t0 t1 t9 t12 t53 t54 t55 h Q).mp H)
noncomputable def X17_10 (t0 t1 t3 t9 t30 t31 t32 : Value) (h : AH) (Q : Res → AH → Prop) : Prop :=
  bq (binV Try.prog .add 3 (.tmp 32) (.const (Value.int .i64 1)) t32 (Value.int .i64 1) h) fun t51 =>
  let t32 : Value := t51
  H17_5 t0 t1 t3 t9 t30 t31 t32 h Q
theorem X17_10_eq (t0 t1 t3 t9 t30 t31 t32 : Value) (h : AH) (Q : Res → AH → Prop) : X17_10 t0 t1 t3 t9 t30 t31 t32 h Q = wpC Try.prog L17 (cAt code17 [.r, .r, .r, .l, .r, .i, .i, .r, .r, .r]) (mkA 136 [(0, t0), (1, t1), (3, t3), (9, t9), (30, t30), (31, t31), (32, t32)]) h (ctxAt Try.prog L17 code17 [.r, .r, .r, .l, .r, .i, .i, .r, .r, .r] (retK Try.prog res17 Q)) := by kernel_rfl
theorem X17_10_ok {t0 t1 t3 t9 t30 t31 t32 : Value} {h : AH} {Q : Res → AH → Prop} (H : X17_10 t0 t1 t3 t9 t30 t31 t32 h Q) : J17_10 t0 t1 t3 t9 t30 t31 t32 h Q := (X17_10_eq t0 t1 t3 t9 t30 t31 t32 h Q).mp H
noncomputable def X17_5 (t0 t1 t3 t9 t30 t31 t32 : Value) (h : AH) (Q : Res → AH → Prop) : Prop :=
  bq (binV Try.prog .lss 3 (.tmp 32) (.tmp 31) t32 t31 h) fun t33 =>
  condP (some t33)
  (bq (ia 3 t30 t32) fun t34 =>
  bq (ldN 3 h t34) fun t35 =>
  (fun t11 h => 
  bq (stN 3 h t11 t35) fun h => (fun _ h => 
  let t36 : Value := t9
  bq (nilV t36) fun t37 =>
  bq (fa 3 1 t37) fun t38 =>
  bq (ld1 h t38) fun t39 =>
  bq (ldN 3 h t11) fun t40 =>
  bq (opLookup Try.prog h 72 t39 t40 false) fun t41 =>
  bq (binV Try.prog .eql 3 (.tmp 41) (.const (Value.int .i64 0)) t41 (Value.int .i64 0) h) fun t42 =>
  condP (some t42)
  (let t43 : Value := t9
  bq (nilV t43) fun t44 =>
  bq (fa 3 1 t44) fun t45 =>
  bq (ld1 h t45) fun t46 =>
  bq (ldN 3 h t11) fun t47 =>
  bq (opMapUpdate Try.prog h 72 t46 t47 (Value.int .i64 1)) fun h => (fun _ h => 
  let t48 : Value := t9
  bq (ldN 3 h t11) fun t49 =>
  HC Try.prog 35 (([] : List Value) ++ [t48, t49] ++ ([] : List Value)).toArray h (resK (fun t50 h => 
  J17_10 t0 t1 t3 t9 t30 t31 t32 h Q) (fun v h => Q (.pan v) h))) undef h)
  (J17_10 t0 t1 t3 t9 t30 t31 t32 h Q)) undef h) (opNew h 25 #[(Value.int .i64 0), (Value.int .i64 0), (Value.int .i64 0)]).1 (opNew h 25 #[(Value.int .i64 0), (Value.int .i64 0), (Value.int .i64 0)]).2)
  ((fun t52 h => 
  let t12 : Value := t52
  let t53 : Value := t3
  bq (lenL t53) fun t54 =>
  let t55 : Value := (Value.int .i64 0)
  H17_13 t0 t1 t9 t12 t53 t54 t55 h Q) (opMakeMap h).1 (opMakeMap h).2)
theorem X17_5_eq (t0 t1 t3 t9 t30 t31 t32 : Value) (h : AH) (Q : Res → AH → Prop) : X17_5 t0 t1 t3 t9 t30 t31 t32 h Q = wpC Try.prog L17 (cAt code17 [.r, .r, .r, .l, .r, .i, .i]) (mkA 136 [(0, t0), (1, t1), (3, t3), (9, t9), (30, t30), (31, t31), (32, t32)]) h (ctxAt Try.prog L17 code17 [.r, .r, .r, .l, .r, .i, .i] (retK Try.prog res17 Q)) := by kernel_rfl
theorem X17_5_ok {t0 t1 t3 t9 t30 t31 t32 : Value} {h : AH} {Q : Res → AH → Prop} (H : X17_5 t0 t1 t3 t9 t30 t31 t32 h Q) : H17_5 t0 t1 t3 t9 t30 t31 t32 h Q := HL.step (L := L17) ((X17_5_eq t0 t1 t3 t9 t30 t31 t32 h Q).mp H)
noncomputable def X17 (t0 t1 t2 t3 : Value) (h : AH) (Q : Res → AH → Prop) : Prop :=
  let t8 : Value := (Value.slice none 0 0)
  let t23 : Value := t0
  bq (binV Try.prog .eql 32 (.tmp 23) (.const (Value.pointer none)) t23 (Value.pointer none) h) fun t24 =>
  condP (some t24)
  (let t8 : Value := (Value.slice none 0 0)
  Q (.ret t8) h)
  (let t25 : Value := t0
  let t26 : Value := t1
  (fun t27 h => 
  bq (bd #[(Value.pointer none), (Value.int .i64 0), (Value.slice none 0 0), (Value.map none)] [(0, 1, t25), (1, 1, t26), (3, 1, t27)]) fun t28 =>
  (fun t29 h => 
  let t9 : Value := t29
  let t30 : Value := t2
  bq (lenL t30) fun t31 =>
  let t32 : Value := (Value.int .i64 0)
  H17_5 t0 t1 t3 t9 t30 t31 t32 h Q) (opNew h 91 t28.cells).1 (opNew h 91 t28.cells).2) (opMakeMap h).1 (opMakeMap h).2)
theorem X17_eq (t0 t1 t2 t3 : Value) (h : AH) (Q : Res → AH → Prop) : X17 t0 t1 t2 t3 h Q = wpC Try.prog L17 code17 (argA [t0, t1, t2, t3] Try.f17.ntmps) h (retK Try.prog res17 Q) := by kernel_rfl
theorem X17_body : Try.f17.body = some code17 := by kernel_rfl
theorem X17_ok {t0 t1 t2 t3 : Value} {h : AH} {Q : Res → AH → Prop} (H : X17 t0 t1 t2 t3 h Q) : HC Try.prog 17 [t0, t1, t2, t3].toArray h Q := HC.body Try.func17 X17_body ((X17_eq t0 t1 t2 t3 h Q).mp H)

-- 35 (*mahout/blocks.worker).copies
noncomputable def code35 : Code := match Try.f35.body with | some c => c | none => .skip
noncomputable def res35 : List ResultVar := Try.f35.results.toList
def L35 : Nat → Option (List Nat) := fun r => if r = 5 then some [0, 3, 5, 55, 56, 57] else none
noncomputable def H35_5 (t0 t3 t5 t55 t56 t57 : Value) (h : AH) (Q : Res → AH → Prop) : Prop := HL Try.prog (cAt code35 [.r, .r, .r, .r, .r, .i, .i]) (mkA 68 [(0, t0), (3, t3), (5, t5), (55, t55), (56, t56), (57, t57)]) h (ctxAt Try.prog L35 code35 [.r, .r, .r, .r, .r, .i] (retK Try.prog res35 Q))
noncomputable def X35_5 (t0 t3 t5 t55 t56 t57 : Value) (h : AH) (Q : Res → AH → Prop) : Prop :=
  bq (binV Try.prog .lss 3 (.tmp 57) (.tmp 56) t57 t56 h) fun t58 =>
  condP (some t58)
  (bq (ia 1 t55 t57) fun t59 =>
  bq (ld1 h t59) fun t60 =>
  let t7 : Value := t60
  let t61 : Value := t0
  bq (ldN 3 h t3) fun t62 =>
  let t63 : Value := t5
  let t64 : Value := t7
  bq (bd #[(Value.int .i64 0), (Value.int .i64 0), (Value.int .i64 0), (Value.int .i64 0), (Value.int .i64 0), (Value.int .i64 0)] [(0, 1, (Value.int .i64 1)), (1, 3, t62), (4, 1, t63), (5, 1, t64)]) fun t65 =>
  HC Try.prog 39 (([] : List Value) ++ [t61, t65] ++ ([] : List Value)).toArray h (resK (fun t66 h => 
  bq (binV Try.prog .add 3 (.tmp 57) (.const (Value.int .i64 1)) t57 (Value.int .i64 1) h) fun t67 =>
  let t57 : Value := t67
  H35_5 t0 t3 t5 t55 t56 t57 h Q) (fun v h => Q (.pan v) h)))
  (Q (.ret (.tuple [].toArray)) h)
theorem X35_5_eq (t0 t3 t5 t55 t56 t57 : Value) (h : AH) (Q : Res → AH → Prop) : X35_5 t0 t3 t5 t55 t56 t57 h Q = wpC Try.prog L35 (cAt code35 [.r, .r, .r, .r, .r, .i, .i]) (mkA 68 [(0, t0), (3, t3), (5, t5), (55, t55), (56, t56), (57, t57)]) h (ctxAt Try.prog L35 code35 [.r, .r, .r, .r, .r, .i, .i] (retK Try.prog res35 Q)) := by kernel_rfl
theorem X35_5_ok {t0 t3 t5 t55 t56 t57 : Value} {h : AH} {Q : Res → AH → Prop} (H : X35_5 t0 t3 t5 t55 t56 t57 h Q) : H35_5 t0 t3 t5 t55 t56 t57 h Q := HL.step (L := L35) ((X35_5_eq t0 t3 t5 t55 t56 t57 h Q).mp H)
noncomputable def X35 (t0 t1 : Value) (h : AH) (Q : Res → AH → Prop) : Prop :=
  (fun t3 h => 
  let t8 : Value := t0
  bq (nilV t8) fun t9 =>
  bq (fa 0 1 t9) fun t10 =>
  bq (ld1 h t10) fun t11 =>
  bq (ldN 3 h t3) fun t12 =>
  let t13 : Value := t0
  bq (nilV t13) fun t14 =>
  bq (fa 1 1 t14) fun t15 =>
  bq (ld1 h t15) fun t16 =>
  exP Try.prog 13 (([] : List Value) ++ [t11, t12, t16] ++ ([] : List Value)).toArray h (fun t17 h => 
  let t4 : Value := t17
  let t18 : Value := t4
  bq (lenL t18) fun t19 =>
  bq (binV Try.prog .eql 3 (.tmp 19) (.const (Value.int .i64 0)) t19 (Value.int .i64 0) h) fun t20 =>
  let t21 : Value := t20
  guardQ t21 false h (fun k => k t4 h) fun t22 h =>
  guardQ t21 false h (fun k => bq (lenL t22) fun v => k v h) fun t23 h =>
  guardQ t21 false h (fun k => k t0 h) fun t24 h =>
  guardQ t21 false h (fun k => bq (nilV t24) fun v => k v h) fun t25 h =>
  guardQ t21 false h (fun k => bq (fa 0 1 t25) fun v => k v h) fun t26 h =>
  guardQ t21 false h (fun k => bq (ld1 h t26) fun v => k v h) fun t27 h =>
  guardQ t21 false h (fun k => bq (nilV t27) fun v => k v h) fun t28 h =>
  guardQ t21 false h (fun k => bq (fa 0 1 t28) fun v => k v h) fun t29 h =>
  guardQ t21 false h (fun k => bq (ld1 h t29) fun v => k v h) fun t30 h =>
  guardQ t21 false h (fun k => bq (binV Try.prog .geq 3 (.tmp 23) (.tmp 30) t23 t30 h) fun v => k v h) fun t31 h =>
  bq (pickV t21 (Value.bool true) t31) fun t32 =>
  condP (some t32)
  (Q (.ret (.tuple [].toArray)) h)
  (let t33 : Value := t4
  bq (ia 1 t33 (Value.int .i64 0)) fun t34 =>
  bq (ld1 h t34) fun t35 =>
  let t5 : Value := t35
  let t36 : Value := t0
  bq (nilV t36) fun t37 =>
  bq (fa 0 1 t37) fun t38 =>
  bq (ld1 h t38) fun t39 =>
  let t40 : Value := t0
  bq (nilV t40) fun t41 =>
  bq (fa 0 1 t41) fun t42 =>
  bq (ld1 h t42) fun t43 =>
  bq (nilV t43) fun t44 =>
  bq (fa 2 1 t44) fun t45 =>
  bq (ld1 h t45) fun t46 =>
  let t47 : Value := t5
  bq (opLookup Try.prog h 85 t46 t47 false) fun t48 =>
  bq (fd1 0 t48) fun t49 =>
  let t50 : Value := t0
  bq (nilV t50) fun t51 =>
  bq (fa 1 1 t51) fun t52 =>
  bq (ld1 h t52) fun t53 =>
  let t54 : Value := t4
  exP Try.prog 15 (([] : List Value) ++ [t39, t49, t53, (Value.int .i64 1), t54] ++ ([] : List Value)).toArray h (fun t55 h => 
  bq (lenL t55) fun t56 =>
  let t57 : Value := (Value.int .i64 0)
  H35_5 t0 t3 t5 t55 t56 t57 h Q)))) (opNew h 25 t1.cells).1 (opNew h 25 t1.cells).2
theorem X35_eq (t0 t1 : Value) (h : AH) (Q : Res → AH → Prop) : X35 t0 t1 h Q = wpC Try.prog L35 code35 (argA [t0, t1] Try.f35.ntmps) h (retK Try.prog res35 Q) := by kernel_rfl
theorem X35_body : Try.f35.body = some code35 := by kernel_rfl
theorem X35_ok {t0 t1 : Value} {h : AH} {Q : Res → AH → Prop} (H : X35 t0 t1 h Q) : HC Try.prog 35 [t0, t1].toArray h Q := HC.body Try.func35 X35_body ((X35_eq t0 t1 h Q).mp H)

-- 36 slices.SortedFunc[mahout/api.Block]
noncomputable def code36 : Code := match Try.f36.body with | some c => c | none => .skip
noncomputable def res36 : List ResultVar := Try.f36.results.toList
def L36 : Nat → Option (List Nat) := fun r => none
noncomputable def X36 (t0 t1 : Value) (h : AH) (Q : Res → AH → Prop) : Prop :=
  let t4 : Value := (Value.slice none 0 0)
  let t6 : Value := t0
  HC Try.prog 54 (([] : List Value) ++ [t6] ++ ([] : List Value)).toArray h (resK (fun t7 h => 
  let t5 : Value := t7
  let t8 : Value := t5
  let t9 : Value := t1
  HC Try.prog 55 (([] : List Value) ++ [t8, t9] ++ ([] : List Value)).toArray h (resK (fun t10 h => 
  let t11 : Value := t5
  let t4 : Value := t11
  Q (.ret t4) h) (fun v h => Q (.pan v) h))) (fun v h => Q (.pan v) h))
theorem X36_eq (t0 t1 : Value) (h : AH) (Q : Res → AH → Prop) : X36 t0 t1 h Q = wpC Try.prog L36 code36 (argA [t0, t1] Try.f36.ntmps) h (retK Try.prog res36 Q) := by kernel_rfl
theorem X36_body : Try.f36.body = some code36 := by kernel_rfl
theorem X36_ok {t0 t1 : Value} {h : AH} {Q : Res → AH → Prop} (H : X36 t0 t1 h Q) : HC Try.prog 36 [t0, t1].toArray h Q := HC.body Try.func36 X36_body ((X36_eq t0 t1 h Q).mp H)

-- 39 (*mahout/blocks.worker).order
noncomputable def code39 : Code := match Try.f39.body with | some c => c | none => .skip
noncomputable def res39 : List ResultVar := Try.f39.results.toList
def L39 : Nat → Option (List Nat) := fun r => none
noncomputable def X39 (t0 t1 : Value) (h : AH) (Q : Res → AH → Prop) : Prop :=
  (fun t3 h => 
  let t4 : Value := t0
  bq (nilV t4) fun t5 =>
  bq (fa 2 1 t5) fun t6 =>
  bq (ld1 h t6) fun t7 =>
  bq (lenL t7) fun t8 =>
  bq (binV Try.prog .lss 3 (.tmp 8) (.const (Value.int .i64 64)) t8 (Value.int .i64 64) h) fun t9 =>
  condP (some t9)
  ((let t10 : Value := t0
  (let t11 : Value := t0
  bq (nilV t11) fun t12 => (bq (fa 2 1 t12) fun t13 => (bq (ld1 h t13) fun t14 => (bq (ldN 6 h t3) fun t15 => (bq (bs 58 #[(Value.int .i64 0), (Value.int .i64 0), (Value.int .i64 0), (Value.int .i64 0), (Value.int .i64 0), (Value.int .i64 0)] 1 h [(0, 6, t15)]) fun r => (fun t16 h2_6 => (bq (apT 58 6 48 (some (Value.agg #[(Value.int .i64 0), (Value.int .i64 0), (Value.int .i64 0), (Value.int .i64 0), (Value.int .i64 0), (Value.int .i64 0)])) h2_6 t14 t16) fun r => (fun t17 h2_7 => (bq (nilV t10) fun t18 => (bq (fa 2 1 t18) fun t19 => (bq (stN 1 h2_7 t19 t17) fun h2_10 => (let v2_10 : Value := undef
  ((bq (ld1 h2_6 t13) fun v => (v = t14 ∧ h2_6 = h2_6)) ∧
  True) ∧
  (fun h => 
  Q (.ret (.tuple [].toArray)) h) h2_10))))) r.1 r.2)) r.1 r.2)))))))
  (Q (.ret (.tuple [].toArray)) h)) (opNew h 58 t1.cells).1 (opNew h 58 t1.cells).2
theorem X39_eq (t0 t1 : Value) (h : AH) (Q : Res → AH → Prop) : X39 t0 t1 h Q = wpC Try.prog L39 code39 (argA [t0, t1] Try.f39.ntmps) h (retK Try.prog res39 Q) := by kernel_rfl
theorem X39_body : Try.f39.body = some code39 := by kernel_rfl
theorem X39_ok {t0 t1 : Value} {h : AH} {Q : Res → AH → Prop} (H : X39 t0 t1 h Q) : HC Try.prog 39 [t0, t1].toArray h Q := HC.body Try.func39 X39_body ((X39_eq t0 t1 h Q).mp H)

-- 38 mahout/blocks.compare
noncomputable def code38 : Code := match Try.f38.body with | some c => c | none => .skip
noncomputable def res38 : List ResultVar := Try.f38.results.toList
def L38 : Nat → Option (List Nat) := fun r => none
noncomputable def X38 (t0 t1 : Value) (h : AH) (Q : Res → AH → Prop) : Prop :=
  (fun t2 h => 
  (fun t3 h => 
  let t4 : Value := (Value.int .i64 0)
  bq (fa 0 1 t2) fun t5 => (bq (ld1 h t5) fun t6 => (bq (fa 0 1 t3) fun t7 => (bq (ld1 h t7) fun t8 => (exP Try.prog 58 (([] : List Value) ++ [t6, t8] ++ ([] : List Value)).toArray h fun t9 g => g = h ∧ (bq (fa 1 1 t2) fun t10 => (bq (ld1 h t10) fun t11 => (bq (fa 1 1 t3) fun t12 => (bq (ld1 h t12) fun t13 => (exP Try.prog 58 (([] : List Value) ++ [t11, t13] ++ ([] : List Value)).toArray h fun t14 g => g = h ∧ (bq (fa 2 1 t2) fun t15 => (bq (ld1 h t15) fun t16 => (bq (fa 2 1 t3) fun t17 => (bq (ld1 h t17) fun t18 => (exP Try.prog 58 (([] : List Value) ++ [t16, t18] ++ ([] : List Value)).toArray h fun t19 g => g = h ∧ (bq (bs 3 #[(Value.int .i64 0), (Value.int .i64 0), (Value.int .i64 0)] 3 h [(0, 1, t9), (1, 1, t14), (2, 1, t19)]) fun r => (fun t20 h1_15 => (exP Try.prog 57 (([] : List Value) ++ [t20] ++ ([] : List Value)).toArray h1_15 fun t21 g => g = h1_15 ∧ ((let t4 : Value := t21
  (True) ∧
  (fun h => 
  Q (.ret t4) h) h1_15)))) r.1 r.2)))))))))))))))) (opNew h 25 t1.cells).1 (opNew h 25 t1.cells).2) (opNew h 25 t0.cells).1 (opNew h 25 t0.cells).2
theorem X38_eq (t0 t1 : Value) (h : AH) (Q : Res → AH → Prop) : X38 t0 t1 h Q = wpC Try.prog L38 code38 (argA [t0, t1] Try.f38.ntmps) h (retK Try.prog res38 Q) := by kernel_rfl
theorem X38_body : Try.f38.body = some code38 := by kernel_rfl
theorem X38_ok {t0 t1 : Value} {h : AH} {Q : Res → AH → Prop} (H : X38 t0 t1 h Q) : HC Try.prog 38 [t0, t1].toArray h Q := HC.body Try.func38 X38_body ((X38_eq t0 t1 h Q).mp H)

-- 37 maps.Keys[map[mahout/api.Block]int,mahout/api.Block,int]
noncomputable def code37 : Code := match Try.f37.body with | some c => c | none => .skip
noncomputable def res37 : List ResultVar := Try.f37.results.toList
def L37 : Nat → Option (List Nat) := fun r => none
noncomputable def X37 (t0 : Value) (h : AH) (Q : Res → AH → Prop) : Prop :=
  (fun t1 h => 
  let t2 : Value := Value.nilFunc
  let t3 : Value := (Value.func (.func 56) [].toArray [t1].toArray)
  let t2 : Value := t3
  Q (.ret t2) h) (opNew h 72 t0.cells).1 (opNew h 72 t0.cells).2
theorem X37_eq (t0 : Value) (h : AH) (Q : Res → AH → Prop) : X37 t0 h Q = wpC Try.prog L37 code37 (argA [t0] Try.f37.ntmps) h (retK Try.prog res37 Q) := by kernel_rfl
theorem X37_body : Try.f37.body = some code37 := by kernel_rfl
theorem X37_ok {t0 : Value} {h : AH} {Q : Res → AH → Prop} (H : X37 t0 h Q) : HC Try.prog 37 [t0].toArray h Q := HC.body Try.func37 X37_body ((X37_eq t0 h Q).mp H)

-- 56 maps.Keys[map[mahout/api.Block]int,mahout/api.Block,int]$1
noncomputable def code56 : Code := match Try.f56.body with | some c => c | none => .skip
noncomputable def res56 : List ResultVar := Try.f56.results.toList
def L56 : Nat → Option (List Nat) := fun r => if r = 1 then some [0, 5] else none
noncomputable def H56_1 (t0 t5 : Value) (h : AH) (Q : Res → AH → Prop) : Prop := HL Try.prog (cAt code56 [.r, .i, .i]) (mkA 14 [(0, t0), (5, t5)]) h (ctxAt Try.prog L56 code56 [.r, .i] (retK Try.prog res56 Q))
noncomputable def X56_1 (t0 t5 : Value) (h : AH) (Q : Res → AH → Prop) : Prop :=
  nextP Try.prog h t5 false (fun t6 h => 
  bq (opExtract t6 0) fun t7 =>
  condP (some t7)
  (bq (opEntry h t5) fun t8 =>
  bq (opExtract t8 0) fun t9 =>
  (fun t3 h => 
  bq (stN 3 h t3 t9) fun h => (fun _ h => 
  let t10 : Value := t0
  bq (ldN 3 h t3) fun t11 =>
  callP Try.prog t10 [t11] h (fun t12 h => 
  bq (unV Try.prog .not t12) fun t13 =>
  condP (some t13)
  (Q (.ret (.tuple [].toArray)) h)
  (H56_1 t0 t5 h Q)) (fun v h => Q (.pan v) h)) undef h) (opNew h 25 #[(Value.int .i64 0), (Value.int .i64 0), (Value.int .i64 0)]).1 (opNew h 25 #[(Value.int .i64 0), (Value.int .i64 0), (Value.int .i64 0)]).2)
  (Q (.ret (.tuple [].toArray)) h))
theorem X56_1_eq (t0 t5 : Value) (h : AH) (Q : Res → AH → Prop) : X56_1 t0 t5 h Q = wpC Try.prog L56 (cAt code56 [.r, .i, .i]) (mkA 14 [(0, t0), (5, t5)]) h (ctxAt Try.prog L56 code56 [.r, .i, .i] (retK Try.prog res56 Q)) := by kernel_rfl
theorem X56_1_ok {t0 t5 : Value} {h : AH} {Q : Res → AH → Prop} (H : X56_1 t0 t5 h Q) : H56_1 t0 t5 h Q := HL.step (L := L56) ((X56_1_eq t0 t5 h Q).mp H)
noncomputable def X56 (t0 t1 : Value) (h : AH) (Q : Res → AH → Prop) : Prop :=
  bq (ld1 h t1) fun t4 =>
  bq (opRange Try.prog h 72 t4) fun r => (fun t5 h => 
  H56_1 t0 t5 h Q) r.1 r.2
theorem X56_eq (t0 t1 : Value) (h : AH) (Q : Res → AH → Prop) : X56 t0 t1 h Q = wpC Try.prog L56 code56 (argA [t0, t1] Try.f56.ntmps) h (retK Try.prog res56 Q) := by kernel_rfl
theorem X56_body : Try.f56.body = some code56 := by kernel_rfl
theorem X56_ok {t0 t1 : Value} {h : AH} {Q : Res → AH → Prop} (H : X56 t0 t1 h Q) : HC Try.prog 56 [t0, t1].toArray h Q := HC.body Try.func56 X56_body ((X56_eq t0 t1 h Q).mp H)

-- 54 slices.Collect[mahout/api.Block]
noncomputable def code54 : Code := match Try.f54.body with | some c => c | none => .skip
noncomputable def res54 : List ResultVar := Try.f54.results.toList
def L54 : Nat → Option (List Nat) := fun r => none
noncomputable def X54 (t0 : Value) (h : AH) (Q : Res → AH → Prop) : Prop :=
  let t2 : Value := (Value.slice none 0 0)
  let t3 : Value := t0
  HC Try.prog 68 (([] : List Value) ++ [(Value.slice none 0 0), t3] ++ ([] : List Value)).toArray h (resK (fun t4 h => 
  let t2 : Value := t4
  Q (.ret t2) h) (fun v h => Q (.pan v) h))
theorem X54_eq (t0 : Value) (h : AH) (Q : Res → AH → Prop) : X54 t0 h Q = wpC Try.prog L54 code54 (argA [t0] Try.f54.ntmps) h (retK Try.prog res54 Q) := by kernel_rfl
theorem X54_body : Try.f54.body = some code54 := by kernel_rfl
theorem X54_ok {t0 : Value} {h : AH} {Q : Res → AH → Prop} (H : X54 t0 h Q) : HC Try.prog 54 [t0].toArray h Q := HC.body Try.func54 X54_body ((X54_eq t0 h Q).mp H)

-- 68 slices.AppendSeq[[]mahout/api.Block,mahout/api.Block]
noncomputable def code68 : Code := match Try.f68.body with | some c => c | none => .skip
noncomputable def res68 : List ResultVar := Try.f68.results.toList
def L68 : Nat → Option (List Nat) := fun r => if r = 2 then some [2] else none
noncomputable def rec68_2 (t2 : Value) : Loop := recOf (mkA 13 [(2, t2)]) (rps (cAt code68 [.r, .l, .r, .i])) (rasg (cAt code68 [.r, .l, .r, .i])) (rbody (cAt code68 [.r, .l, .r, .i]))
noncomputable def X68 (t0 t1 : Value) (h : AH) (Q : Res → AH → Prop) : Prop :=
  (fun t2 h => 
  let t4 : Value := (Value.slice none 0 0)
  let t6 : Value := t1
  (rndP none h ∧ rangeQ Try.prog t6 (rec68_2 t2) h (fun j h => jumpX
  (bq (ld1 h t2) fun t12 =>
  let t4 : Value := t12
  Q (.ret t4) h)
  (Q (.ret t4) h)
  (fun i => if i = 0 then (bq (ld1 h t2) fun t12 =>
  let t4 : Value := t12
  Q (.ret t4) h) else (False))
  (fun l => False) j) (fun v h => Q (.pan v) h))) (opNew h 27 t0.cells).1 (opNew h 27 t0.cells).2
theorem X68_eq (t0 t1 : Value) (h : AH) (Q : Res → AH → Prop) : X68 t0 t1 h Q = wpC Try.prog L68 code68 (argA [t0, t1] Try.f68.ntmps) h (retK Try.prog res68 Q) := by kernel_rfl
theorem X68_body : Try.f68.body = some code68 := by kernel_rfl
theorem X68_ok {t0 t1 : Value} {h : AH} {Q : Res → AH → Prop} (H : X68 t0 t1 h Q) : HC Try.prog 68 [t0, t1].toArray h Q := HC.body Try.func68 X68_body ((X68_eq t0 t1 h Q).mp H)
noncomputable def Y68_2 (t2 t7 : Value) (k : Nat) (h : AH) (K : Value → AH → Prop) : Prop :=
  (fun t5 h => 
  bq (stN 3 h t5 t7) fun h => (fun _ h => 
  bq (loopAt h k) fun q => q.1.state = .ready ∧ (fun h : AH =>
  bq (ld1 h t2) fun t8 =>
  bq (ldN 3 h t5) fun t9 =>
  bq (bs 25 #[(Value.int .i64 0), (Value.int .i64 0), (Value.int .i64 0)] 1 h [(0, 3, t9)]) fun r => (fun t10 h => 
  bq (apT 25 3 24 (some (Value.agg #[(Value.int .i64 0), (Value.int .i64 0), (Value.int .i64 0)])) h t8 t10) fun r => (fun t11 h => 
  bq (stN 1 h t2 t11) fun h => (fun _ h => 
  endRd K k none h) undef h) r.1 r.2) r.1 r.2) (h.put k (some (.loop { q.1 with state := .busy }, q.2)))) undef h) (opNew h 25 #[(Value.int .i64 0), (Value.int .i64 0), (Value.int .i64 0)]).1 (opNew h 25 #[(Value.int .i64 0), (Value.int .i64 0), (Value.int .i64 0)]).2
theorem Y68_2_eq (t2 t7 : Value) (k : Nat) (h : AH) (K : Value → AH → Prop) (st : LoopState) (pe : Option Code) : Y68_2 t2 t7 k h K = roundW Try.prog L68 { (rec68_2 t2) with state := st, pending := pe } k [t7] h K := by kernel_rfl
theorem Y68_2_ok {t2 t7 : Value} {k : Nat} {h : AH} {K : Value → AH → Prop} {st : LoopState} {pe : Option Code} {s : Option Nat} (hl : loopAt h k = some ({ (rec68_2 t2) with state := st, pending := pe }, s)) (H : Y68_2 t2 t7 k h K) : roundP Try.prog k [t7] h K := roundP_of hl (by kernel_rfl) ((Y68_2_eq t2 t7 k h K st pe).mp H)

-- 57 cmp.Or[int]
noncomputable def code57 : Code := match Try.f57.body with | some c => c | none => .skip
noncomputable def res57 : List ResultVar := Try.f57.results.toList
def L57 : Nat → Option (List Nat) := fun r => if r = 3 then some [3, 6, 7, 8] else none
noncomputable def H57_3 (t3 t6 t7 t8 : Value) (h : AH) (Q : Res → AH → Prop) : Prop := HL Try.prog (cAt code57 [.r, .r, .l, .r, .i, .i]) (mkA 18 [(3, t3), (6, t6), (7, t7), (8, t8)]) h (ctxAt Try.prog L57 code57 [.r, .r, .l, .r, .i] (retK Try.prog res57 Q))
noncomputable def X57_3 (t3 t6 t7 t8 : Value) (h : AH) (Q : Res → AH → Prop) : Prop :=
  bq (binV Try.prog .lss 3 (.tmp 8) (.tmp 7) t8 t7 h) fun t9 =>
  condP (some t9)
  (bq (ia 1 t6 t8) fun t10 =>
  bq (ld1 h t10) fun t11 =>
  let t5 : Value := t11
  let t12 : Value := t5
  let t13 : Value := t3
  bq (binV Try.prog .neq 3 (.tmp 12) (.tmp 13) t12 t13 h) fun t14 =>
  condP (some t14)
  (let t15 : Value := t5
  let t2 : Value := t15
  Q (.ret t2) h)
  (bq (binV Try.prog .add 3 (.tmp 8) (.const (Value.int .i64 1)) t8 (Value.int .i64 1) h) fun t16 =>
  let t8 : Value := t16
  H57_3 t3 t6 t7 t8 h Q))
  (let t17 : Value := t3
  let t2 : Value := t17
  Q (.ret t2) h)
theorem X57_3_eq (t3 t6 t7 t8 : Value) (h : AH) (Q : Res → AH → Prop) : X57_3 t3 t6 t7 t8 h Q = wpC Try.prog L57 (cAt code57 [.r, .r, .l, .r, .i, .i]) (mkA 18 [(3, t3), (6, t6), (7, t7), (8, t8)]) h (ctxAt Try.prog L57 code57 [.r, .r, .l, .r, .i, .i] (retK Try.prog res57 Q)) := by kernel_rfl
theorem X57_3_ok {t3 t6 t7 t8 : Value} {h : AH} {Q : Res → AH → Prop} (H : X57_3 t3 t6 t7 t8 h Q) : H57_3 t3 t6 t7 t8 h Q := HL.step (L := L57) ((X57_3_eq t3 t6 t7 t8 h Q).mp H)
noncomputable def X57 (t0 : Value) (h : AH) (Q : Res → AH → Prop) : Prop :=
  let t2 : Value := (Value.int .i64 0)
  let t3 : Value := (Value.int .i64 0)
  let t6 : Value := t0
  bq (lenL t6) fun t7 =>
  let t8 : Value := (Value.int .i64 0)
  H57_3 t3 t6 t7 t8 h Q
theorem X57_eq (t0 : Value) (h : AH) (Q : Res → AH → Prop) : X57 t0 h Q = wpC Try.prog L57 code57 (argA [t0] Try.f57.ntmps) h (retK Try.prog res57 Q) := by kernel_rfl
theorem X57_body : Try.f57.body = some code57 := by kernel_rfl
theorem X57_ok {t0 : Value} {h : AH} {Q : Res → AH → Prop} (H : X57 t0 h Q) : HC Try.prog 57 [t0].toArray h Q := HC.body Try.func57 X57_body ((X57_eq t0 h Q).mp H)

-- 58 cmp.Compare[int]
noncomputable def code58 : Code := match Try.f58.body with | some c => c | none => .skip
noncomputable def res58 : List ResultVar := Try.f58.results.toList
def L58 : Nat → Option (List Nat) := fun r => none
noncomputable def X58 (t0 t1 : Value) (h : AH) (Q : Res → AH → Prop) : Prop :=
  let t4 : Value := (Value.int .i64 0)
  let t7 : Value := t0
  HC Try.prog 70 (([] : List Value) ++ [t7] ++ ([] : List Value)).toArray h (resK (fun t8 h => 
  let t5 : Value := t8
  let t9 : Value := t1
  HC Try.prog 70 (([] : List Value) ++ [t9] ++ ([] : List Value)).toArray h (resK (fun t10 h => 
  let t6 : Value := t10
  let t11 : Value := t5
  condP (some t11)
  (let t12 : Value := t6
  condP (some t12)
  (let t4 : Value := (Value.int .i64 0)
  Q (.ret t4) h)
  (let t4 : Value := (Value.int .i64 (-1))
  Q (.ret t4) h))
  (let t13 : Value := t6
  condP (some t13)
  (let t4 : Value := (Value.int .i64 1)
  Q (.ret t4) h)
  (let t14 : Value := t0
  let t15 : Value := t1
  bq (binV Try.prog .lss 3 (.tmp 14) (.tmp 15) t14 t15 h) fun t16 =>
  condP (some t16)
  (let t4 : Value := (Value.int .i64 (-1))
  Q (.ret t4) h)
  (let t17 : Value := t0
  let t18 : Value := t1
  bq (binV Try.prog .gtr 3 (.tmp 17) (.tmp 18) t17 t18 h) fun t19 =>
  condP (some t19)
  (let t4 : Value := (Value.int .i64 1)
  Q (.ret t4) h)
  (let t4 : Value := (Value.int .i64 0)
  Q (.ret t4) h))))) (fun v h => Q (.pan v) h))) (fun v h => Q (.pan v) h))
theorem X58_eq (t0 t1 : Value) (h : AH) (Q : Res → AH → Prop) : X58 t0 t1 h Q = wpC Try.prog L58 code58 (argA [t0, t1] Try.f58.ntmps) h (retK Try.prog res58 Q) := by kernel_rfl
theorem X58_body : Try.f58.body = some code58 := by kernel_rfl
theorem X58_ok {t0 t1 : Value} {h : AH} {Q : Res → AH → Prop} (H : X58 t0 t1 h Q) : HC Try.prog 58 [t0, t1].toArray h Q := HC.body Try.func58 X58_body ((X58_eq t0 t1 h Q).mp H)

-- 70 cmp.isNaN[int]
noncomputable def code70 : Code := match Try.f70.body with | some c => c | none => .skip
noncomputable def res70 : List ResultVar := Try.f70.results.toList
def L70 : Nat → Option (List Nat) := fun r => none
noncomputable def X70 (t0 : Value) (h : AH) (Q : Res → AH → Prop) : Prop :=
  let t2 : Value := (Value.bool false)
  let t3 : Value := t0
  let t4 : Value := t0
  bq (binV Try.prog .neq 3 (.tmp 3) (.tmp 4) t3 t4 h) fun t5 =>
  let t2 : Value := t5
  Q (.ret t2) h
theorem X70_eq (t0 : Value) (h : AH) (Q : Res → AH → Prop) : X70 t0 h Q = wpC Try.prog L70 code70 (argA [t0] Try.f70.ntmps) h (retK Try.prog res70 Q) := by kernel_rfl
theorem X70_body : Try.f70.body = some code70 := by kernel_rfl
theorem X70_ok {t0 : Value} {h : AH} {Q : Res → AH → Prop} (H : X70 t0 h Q) : HC Try.prog 70 [t0].toArray h Q := HC.body Try.func70 X70_body ((X70_eq t0 h Q).mp H)
end Go.Proofs.Ythjdohbkadpnjaa.X
