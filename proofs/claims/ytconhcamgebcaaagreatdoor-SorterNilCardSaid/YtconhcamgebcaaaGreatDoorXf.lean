/-
  PRINTED BY xgen.py (this session's own): what must hold ahead of functions.
-/
import Derived.Test.YtconhcamgebcaaaGreatDoorAbC
import Derived.Test.YtconhcamgebcaaaGreatDoorProg
import Derived.KernelRfl
namespace Go.Proofs.YtconhcamgebcaaaGreatDoor.X
open Go.Ab
set_option linter.unusedVariables false
set_option maxRecDepth 100000
-- 23 (*mahout/sorter.Sorter).Finish
noncomputable def code23 : Code := match Tryz.f23.body with | some c => c | none => .skip
noncomputable def res23 : List ResultVar := Tryz.f23.results.toList
def L23 : Nat → Option (List Nat) := fun r => if r = 5 then some [0, 3, 21, 22, 23] else if r = 8 then some [0, 3, 21, 22, 23, 35, 36, 37] else if r = 15 then some [3, 64, 65, 66] else none
noncomputable def H23_5 (t0 t3 t21 t22 t23 : Value) (h : AH) (Q : Res → AH → Prop) : Prop := HL Tryz.prog (cAt code23 [.r, .r, .r, .l, .r, .i, .i]) (mkA 78 [(0, t0), (3, t3), (21, t21), (22, t22), (23, t23)]) h (ctxAt Tryz.prog L23 code23 [.r, .r, .r, .l, .r, .i] (retK Tryz.prog res23 Q))
noncomputable def H23_8 (t0 t3 t21 t22 t23 t35 t36 t37 : Value) (h : AH) (Q : Res → AH → Prop) : Prop := HL Tryz.prog (cAt code23 [.r, .r, .r, .l, .r, .i, .i, .r, .r, .l, .i, .r, .r, .i, .i]) (mkA 78 [(0, t0), (3, t3), (21, t21), (22, t22), (23, t23), (35, t35), (36, t36), (37, t37)]) h (ctxAt Tryz.prog L23 code23 [.r, .r, .r, .l, .r, .i, .i, .r, .r, .l, .i, .r, .r, .i] (retK Tryz.prog res23 Q))
noncomputable def H23_15 (t3 t64 t65 t66 : Value) (h : AH) (Q : Res → AH → Prop) : Prop := HL Tryz.prog (cAt code23 [.r, .r, .r, .r, .l, .r, .i, .i]) (mkA 78 [(3, t3), (64, t64), (65, t65), (66, t66)]) h (ctxAt Tryz.prog L23 code23 [.r, .r, .r, .r, .l, .r, .i] (retK Tryz.prog res23 Q))
noncomputable def X23_15 (t3 t64 t65 t66 : Value) (h : AH) (Q : Res → AH → Prop) : Prop :=
  bq (binV Tryz.prog .lss 3 (.tmp 66) (.tmp 65) t66 t65 h) fun t67 =>
  condP (some t67)
  (let t68 : Value := t66
  bq (ia 1 t64 t66) fun t69 =>
  bq (ld1 h t69) fun t70 =>
  let t9 : Value := t68
  let t10 : Value := t70
  let t71 : Value := t3
  let t72 : Value := t9
  let t73 : Value := t10
  HC Tryz.prog 64 (([] : List Value) ++ [t73] ++ ([] : List Value)).toArray h (resK (fun t74 h => 
  bq (ia 1 t71 t72) fun t75 =>
  bq (stN 1 h t75 t74) fun h => (fun _ h => 
  bq (binV Tryz.prog .add 3 (.tmp 66) (.const (Value.int .i64 1)) t66 (Value.int .i64 1) h) fun t76 =>
  let t66 : Value := t76
  H23_15 t3 t64 t65 t66 h Q) undef h) (fun v h => Q (.pan v) h)))
  (let t77 : Value := t3
  let t2 : Value := t77
  Q (.ret t2) h)
theorem X23_15_eq (t3 t64 t65 t66 : Value) (h : AH) (Q : Res → AH → Prop) : X23_15 t3 t64 t65 t66 h Q = wpC Tryz.prog L23 (cAt code23 [.r, .r, .r, .r, .l, .r, .i, .i]) (mkA 78 [(3, t3), (64, t64), (65, t65), (66, t66)]) h (ctxAt Tryz.prog L23 code23 [.r, .r, .r, .r, .l, .r, .i, .i] (retK Tryz.prog res23 Q)) := by kernel_rfl
theorem X23_15_ok {t3 t64 t65 t66 : Value} {h : AH} {Q : Res → AH → Prop} (H : X23_15 t3 t64 t65 t66 h Q) : H23_15 t3 t64 t65 t66 h Q := HL.step (L := L23) ((X23_15_eq t3 t64 t65 t66 h Q).mp H)
noncomputable def X23_8 (t0 t3 t21 t22 t23 t35 t36 t37 : Value) (h : AH) (Q : Res → AH → Prop) : Prop :=
  bq (binV Tryz.prog .lss 3 (.tmp 37) (.tmp 36) t37 t36 h) fun t38 =>
  condP (some t38)
  (bq (ia 2 t35 t37) fun t39 =>
  bq (ldN 2 h t39) fun t40 =>
  (fun t7 h => 
  bq (stN 2 h t7 t40) fun h => (fun _ h => 
  let t41 : Value := t0
  bq (nilV Tryz.prog t41) fun t42 =>
  bq (fa 0 1 t42) fun t43 =>
  bq (ld1 h t43) fun t44 =>
  bq (fa 0 1 t7) fun t45 =>
  bq (ld1 h t45) fun t46 =>
  let t47 : Value := t0
  bq (nilV Tryz.prog t47) fun t48 =>
  bq (fa 1 1 t48) fun t49 =>
  bq (ld1 h t49) fun t50 =>
  exP Tryz.prog 69 (([] : List Value) ++ [t44, t46, t50] ++ ([] : List Value)).toArray h (fun t51 h => 
  let t8 : Value := t51
  (let t52 : Value := t3
  (let t53 : Value := t8
  (let t54 : Value := t3
  (let t55 : Value := t8
  bq (ia 1 t54 t55) fun t56 => (bq (ld1 h t56) fun t57 => (bq (ldN 2 h t7) fun t58 => (bq (bs 33 #[(Value.string (ByteArray.mk #[])), (Value.string (ByteArray.mk #[]))] 1 h [(0, 2, t58)]) fun r => (fun t59 h11_7 => (bq (apT 33 2 32 (some (Value.agg #[(Value.string (ByteArray.mk #[])), (Value.string (ByteArray.mk #[]))])) h11_7 t57 t59) fun r => (fun t60 h11_8 => (bq (ia 1 t52 t53) fun t61 => (bq (stN 1 h11_8 t61 t60) fun h11_10 => (let v11_10 : Value := undef
  ((bq (ld1 h11_7 t56) fun v => (v = t57 ∧ h11_7 = h11_7)) ∧
  True) ∧
  (fun h => 
  bq (binV Tryz.prog .add 3 (.tmp 37) (.const (Value.int .i64 1)) t37 (Value.int .i64 1) h) fun t62 =>
  let t37 : Value := t62
  H23_8 t0 t3 t21 t22 t23 t35 t36 t37 h Q) h11_10)))) r.1 r.2)) r.1 r.2))))))))) undef h) (opNew h 33 #[(Value.string (ByteArray.mk #[])), (Value.string (ByteArray.mk #[]))]).1 (opNew h 33 #[(Value.string (ByteArray.mk #[])), (Value.string (ByteArray.mk #[]))]).2)
  (bq (binV Tryz.prog .add 3 (.tmp 23) (.const (Value.int .i64 1)) t23 (Value.int .i64 1) h) fun t63 =>
  let t23 : Value := t63
  H23_5 t0 t3 t21 t22 t23 h Q)
theorem X23_8_eq (t0 t3 t21 t22 t23 t35 t36 t37 : Value) (h : AH) (Q : Res → AH → Prop) : X23_8 t0 t3 t21 t22 t23 t35 t36 t37 h Q = wpC Tryz.prog L23 (cAt code23 [.r, .r, .r, .l, .r, .i, .i, .r, .r, .l, .i, .r, .r, .i, .i]) (mkA 78 [(0, t0), (3, t3), (21, t21), (22, t22), (23, t23), (35, t35), (36, t36), (37, t37)]) h (ctxAt Tryz.prog L23 code23 [.r, .r, .r, .l, .r, .i, .i, .r, .r, .l, .i, .r, .r, .i, .i] (retK Tryz.prog res23 Q)) := by kernel_rfl
theorem X23_8_ok {t0 t3 t21 t22 t23 t35 t36 t37 : Value} {h : AH} {Q : Res → AH → Prop} (H : X23_8 t0 t3 t21 t22 t23 t35 t36 t37 h Q) : H23_8 t0 t3 t21 t22 t23 t35 t36 t37 h Q := HL.step (L := L23) ((X23_8_eq t0 t3 t21 t22 t23 t35 t36 t37 h Q).mp H)
noncomputable def X23_5 (t0 t3 t21 t22 t23 : Value) (h : AH) (Q : Res → AH → Prop) : Prop :=
  bq (binV Tryz.prog .lss 3 (.tmp 23) (.tmp 22) t23 t22 h) fun t24 =>
  condP (some t24)
  (bq (ia 2 t21 t23) fun t25 =>
  bq (ldN 2 h t25) fun t26 =>
  (fun t5 h => 
  bq (stN 2 h t5 t26) fun h => (fun _ h => 
  let t27 : Value := t0
  bq (nilV Tryz.prog t27) fun t28 =>
  bq (fa 0 1 t28) fun t29 =>
  bq (ld1 h t29) fun t30 =>
  bq (fa 0 1 t5) fun t31 =>
  bq (ld1 h t31) fun t32 =>
  bq (fa 1 1 t5) fun t33 =>
  bq (ld1 h t33) fun t34 =>
  exP Tryz.prog 68 (([] : List Value) ++ [t30, t32, t34] ++ ([] : List Value)).toArray h (fun t35 h => 
  bq (lenL t35) fun t36 =>
  let t37 : Value := (Value.int .i64 0)
  H23_8 t0 t3 t21 t22 t23 t35 t36 t37 h Q)) undef h) (opNew h 124 #[(Value.string (ByteArray.mk #[])), (Value.slice none 0 0)]).1 (opNew h 124 #[(Value.string (ByteArray.mk #[])), (Value.slice none 0 0)]).2)
  (let t64 : Value := t3
  bq (lenL t64) fun t65 =>
  let t66 : Value := (Value.int .i64 0)
  H23_15 t3 t64 t65 t66 h Q)
theorem X23_5_eq (t0 t3 t21 t22 t23 : Value) (h : AH) (Q : Res → AH → Prop) : X23_5 t0 t3 t21 t22 t23 h Q = wpC Tryz.prog L23 (cAt code23 [.r, .r, .r, .l, .r, .i, .i]) (mkA 78 [(0, t0), (3, t3), (21, t21), (22, t22), (23, t23)]) h (ctxAt Tryz.prog L23 code23 [.r, .r, .r, .l, .r, .i, .i] (retK Tryz.prog res23 Q)) := by kernel_rfl
theorem X23_5_ok {t0 t3 t21 t22 t23 : Value} {h : AH} {Q : Res → AH → Prop} (H : X23_5 t0 t3 t21 t22 t23 h Q) : H23_5 t0 t3 t21 t22 t23 h Q := HL.step (L := L23) ((X23_5_eq t0 t3 t21 t22 t23 h Q).mp H)
noncomputable def X23 (t0 : Value) (h : AH) (Q : Res → AH → Prop) : Prop :=
  let t2 : Value := (Value.slice none 0 0)
  let t11 : Value := t0
  bq (binV Tryz.prog .eql 46 (.tmp 11) (.const (Value.pointer none)) t11 (Value.pointer none) h) fun t12 =>
  condP (some t12)
  (let t2 : Value := (Value.slice none 0 0)
  Q (.ret t2) h)
  (let t13 : Value := t0
  bq (nilV Tryz.prog t13) fun t14 =>
  bq (fa 1 1 t14) fun t15 =>
  bq (ld1 h t15) fun t16 =>
  bq (opMakeSlice Tryz.prog h 49 t16 t16) fun r => (fun t17 h => 
  let t3 : Value := t17
  let t18 : Value := t0
  HC Tryz.prog 67 (([] : List Value) ++ [t18] ++ ([] : List Value)).toArray h (resK (fun t19 h => 
  HC Tryz.prog 66 (([] : List Value) ++ [t19] ++ ([] : List Value)).toArray h (resK (fun t20 h => 
  HC Tryz.prog 65 (([] : List Value) ++ [t20] ++ ([] : List Value)).toArray h (resK (fun t21 h => 
  bq (lenL t21) fun t22 =>
  let t23 : Value := (Value.int .i64 0)
  H23_5 t0 t3 t21 t22 t23 h Q) (fun v h => Q (.pan v) h))) (fun v h => Q (.pan v) h))) (fun v h => Q (.pan v) h))) r.1 r.2)
theorem X23_eq (t0 : Value) (h : AH) (Q : Res → AH → Prop) : X23 t0 h Q = wpC Tryz.prog L23 code23 (argA [t0] Tryz.f23.ntmps) h (retK Tryz.prog res23 Q) := by kernel_rfl
theorem X23_body : Tryz.f23.body = some code23 := by kernel_rfl
theorem X23_ok {t0 : Value} {h : AH} {Q : Res → AH → Prop} (H : X23 t0 h Q) : HC Tryz.prog 23 [t0].toArray h Q := HC.body Tryz.func23 X23_body ((X23_eq t0 h Q).mp H)

-- 33 mahout/local.Run
noncomputable def code33 : Code := match Tryz.f33.body with | some c => c | none => .skip
noncomputable def res33 : List ResultVar := Tryz.f33.results.toList
def L33 : Nat → Option (List Nat) := fun r => if r = 6 then some [2, 6, 8, 29, 30, 31] else if r = 9 then some [2, 6, 8, 10, 29, 30, 31, 39, 40, 41] else if r = 12 then some [2, 6, 8, 10, 29, 30, 31, 39, 40, 41, 50, 51, 52] else if r = 20 then some [6, 15, 70, 71, 72] else none
noncomputable def H33_6 (t2 t6 t8 t29 t30 t31 : Value) (h : AH) (Q : Res → AH → Prop) : Prop := HL Tryz.prog (cAt code33 [.r, .r, .r, .r, .l, .r, .i, .i]) (mkA 84 [(2, t2), (6, t6), (8, t8), (29, t29), (30, t30), (31, t31)]) h (ctxAt Tryz.prog L33 code33 [.r, .r, .r, .r, .l, .r, .i] (retK Tryz.prog res33 Q))
noncomputable def H33_9 (t2 t6 t8 t10 t29 t30 t31 t39 t40 t41 : Value) (h : AH) (Q : Res → AH → Prop) : Prop := HL Tryz.prog (cAt code33 [.r, .r, .r, .r, .l, .r, .i, .i, .r, .r, .l, .i, .r, .r, .i, .i]) (mkA 84 [(2, t2), (6, t6), (8, t8), (10, t10), (29, t29), (30, t30), (31, t31), (39, t39), (40, t40), (41, t41)]) h (ctxAt Tryz.prog L33 code33 [.r, .r, .r, .r, .l, .r, .i, .i, .r, .r, .l, .i, .r, .r, .i] (retK Tryz.prog res33 Q))
noncomputable def H33_20 (t6 t15 t70 t71 t72 : Value) (h : AH) (Q : Res → AH → Prop) : Prop := HL Tryz.prog (cAt code33 [.r, .r, .r, .r, .r, .r, .l, .r, .i, .i]) (mkA 84 [(6, t6), (15, t15), (70, t70), (71, t71), (72, t72)]) h (ctxAt Tryz.prog L33 code33 [.r, .r, .r, .r, .r, .r, .l, .r, .i] (retK Tryz.prog res33 Q))
noncomputable def H33_12 (t2 t6 t8 t10 t29 t30 t31 t39 t40 t41 t50 t51 t52 : Value) (h : AH) (Q : Res → AH → Prop) : Prop := HL Tryz.prog (cAt code33 [.r, .r, .r, .r, .l, .r, .i, .i, .r, .r, .l, .i, .r, .r, .i, .i, .r, .r, .l, .i, .r, .r, .i, .i]) (mkA 84 [(2, t2), (6, t6), (8, t8), (10, t10), (29, t29), (30, t30), (31, t31), (39, t39), (40, t40), (41, t41), (50, t50), (51, t51), (52, t52)]) h (ctxAt Tryz.prog L33 code33 [.r, .r, .r, .r, .l, .r, .i, .i, .r, .r, .l, .i, .r, .r, .i, .i, .r, .r, .l, .i, .r, .r, .i] (retK Tryz.prog res33 Q))
noncomputable def X33_12 (t2 t6 t8 t10 t29 t30 t31 t39 t40 t41 t50 t51 t52 : Value) (h : AH) (Q : Res → AH → Prop) : Prop :=
  bq (binV Tryz.prog .lss 3 (.tmp 52) (.tmp 51) t52 t51 h) fun t53 =>
  condP (some t53)
  (let t54 : Value := t52
  bq (ia 1 t50 t52) fun t55 =>
  bq (ld1 h t55) fun t56 =>
  let t13 : Value := t54
  let t14 : Value := t56
  let t57 : Value := t8
  let t58 : Value := t13
  let t59 : Value := t8
  let t60 : Value := t13
  bq (ia 1 t59 t60) fun t61 =>
  bq (ld1 h t61) fun t62 =>
  let t63 : Value := t14
  bq (bs 29 #[(Value.slice none 0 0)] 1 h [(0, 1, t63)]) fun r => (fun t64 h => 
  bq (apT 29 1 24 (some (Value.slice none 0 0)) h t62 t64) fun r => (fun t65 h => 
  bq (ia 1 t57 t58) fun t66 =>
  bq (stN 1 h t66 t65) fun h => (fun _ h => 
  bq (binV Tryz.prog .add 3 (.tmp 52) (.const (Value.int .i64 1)) t52 (Value.int .i64 1) h) fun t67 =>
  let t52 : Value := t67
  H33_12 t2 t6 t8 t10 t29 t30 t31 t39 t40 t41 t50 t51 t52 h Q) undef h) r.1 r.2) r.1 r.2)
  (bq (binV Tryz.prog .add 3 (.tmp 41) (.const (Value.int .i64 1)) t41 (Value.int .i64 1) h) fun t68 =>
  let t41 : Value := t68
  H33_9 t2 t6 t8 t10 t29 t30 t31 t39 t40 t41 h Q)
theorem X33_12_eq (t2 t6 t8 t10 t29 t30 t31 t39 t40 t41 t50 t51 t52 : Value) (h : AH) (Q : Res → AH → Prop) : X33_12 t2 t6 t8 t10 t29 t30 t31 t39 t40 t41 t50 t51 t52 h Q = wpC Tryz.prog L33 (cAt code33 [.r, .r, .r, .r, .l, .r, .i, .i, .r, .r, .l, .i, .r, .r, .i, .i, .r, .r, .l, .i, .r, .r, .i, .i]) (mkA 84 [(2, t2), (6, t6), (8, t8), (10, t10), (29, t29), (30, t30), (31, t31), (39, t39), (40, t40), (41, t41), (50, t50), (51, t51), (52, t52)]) h (ctxAt Tryz.prog L33 code33 [.r, .r, .r, .r, .l, .r, .i, .i, .r, .r, .l, .i, .r, .r, .i, .i, .r, .r, .l, .i, .r, .r, .i, .i] (retK Tryz.prog res33 Q)) := by kernel_rfl
theorem X33_12_ok {t2 t6 t8 t10 t29 t30 t31 t39 t40 t41 t50 t51 t52 : Value} {h : AH} {Q : Res → AH → Prop} (H : X33_12 t2 t6 t8 t10 t29 t30 t31 t39 t40 t41 t50 t51 t52 h Q) : H33_12 t2 t6 t8 t10 t29 t30 t31 t39 t40 t41 t50 t51 t52 h Q := HL.step (L := L33) ((X33_12_eq t2 t6 t8 t10 t29 t30 t31 t39 t40 t41 t50 t51 t52 h Q).mp H)
noncomputable def X33_20 (t6 t15 t70 t71 t72 : Value) (h : AH) (Q : Res → AH → Prop) : Prop :=
  bq (binV Tryz.prog .lss 3 (.tmp 72) (.tmp 71) t72 t71 h) fun t73 =>
  condP (some t73)
  (bq (ia 1 t70 t72) fun t74 =>
  bq (ld1 h t74) fun t75 =>
  let t17 : Value := t75
  let t76 : Value := t15
  let t77 : Value := t6
  let t78 : Value := t17
  HC Tryz.prog 87 (([] : List Value) ++ [t77, t78] ++ ([] : List Value)).toArray h (resK (fun t79 h => 
  bq (bs 9 #[(Value.string (ByteArray.mk #[]))] 1 h [(0, 1, t79)]) fun r => (fun t80 h => 
  bq (apT 9 1 16 (some (Value.string (ByteArray.mk #[]))) h t76 t80) fun r => (fun t81 h => 
  let t15 : Value := t81
  bq (binV Tryz.prog .add 3 (.tmp 72) (.const (Value.int .i64 1)) t72 (Value.int .i64 1) h) fun t82 =>
  let t72 : Value := t82
  H33_20 t6 t15 t70 t71 t72 h Q) r.1 r.2) r.1 r.2) (fun v h => Q (.pan v) h)))
  (let t83 : Value := t15
  let t4 : Value := t83
  let t5 : Value := (Value.int .i64 0)
  Q (.ret (.tuple [t4, t5].toArray)) h)
theorem X33_20_eq (t6 t15 t70 t71 t72 : Value) (h : AH) (Q : Res → AH → Prop) : X33_20 t6 t15 t70 t71 t72 h Q = wpC Tryz.prog L33 (cAt code33 [.r, .r, .r, .r, .r, .r, .l, .r, .i, .i]) (mkA 84 [(6, t6), (15, t15), (70, t70), (71, t71), (72, t72)]) h (ctxAt Tryz.prog L33 code33 [.r, .r, .r, .r, .r, .r, .l, .r, .i, .i] (retK Tryz.prog res33 Q)) := by kernel_rfl
theorem X33_20_ok {t6 t15 t70 t71 t72 : Value} {h : AH} {Q : Res → AH → Prop} (H : X33_20 t6 t15 t70 t71 t72 h Q) : H33_20 t6 t15 t70 t71 t72 h Q := HL.step (L := L33) ((X33_20_eq t6 t15 t70 t71 t72 h Q).mp H)
noncomputable def X33_9 (t2 t6 t8 t10 t29 t30 t31 t39 t40 t41 : Value) (h : AH) (Q : Res → AH → Prop) : Prop :=
  bq (binV Tryz.prog .lss 3 (.tmp 41) (.tmp 40) t41 t40 h) fun t42 =>
  condP (some t42)
  (bq (ia 2 t39 t41) fun t43 =>
  bq (ldN 2 h t43) fun t44 =>
  (fun t12 h => 
  bq (stN 2 h t12 t44) fun h => (fun _ h => 
  (let t45 : Value := t6
  bq (ldN 4 h t2) fun t46 => ((let t47 : Value := t10
  bq (ldN 2 h t12) fun t48 => (exP Tryz.prog 86 (([] : List Value) ++ [t47, t48] ++ ([] : List Value)).toArray h fun t49 g => g = h ∧ (exP Tryz.prog 85 (([] : List Value) ++ [t45, t46, t49] ++ ([] : List Value)).toArray h fun t50 g => g = h ∧ (bq (lenL t50) fun t51 => ((let t52 : Value := (Value.int .i64 0)
  (True) ∧
  (H33_12 t2 t6 t8 t10 t29 t30 t31 t39 t40 t41 t50 t51 t52 h Q)))))))))) undef h) (opNew h 147 #[(Value.int .i64 0), (Value.int .i64 0)]).1 (opNew h 147 #[(Value.int .i64 0), (Value.int .i64 0)]).2)
  (bq (binV Tryz.prog .add 3 (.tmp 31) (.const (Value.int .i64 1)) t31 (Value.int .i64 1) h) fun t69 =>
  let t31 : Value := t69
  H33_6 t2 t6 t8 t29 t30 t31 h Q)
theorem X33_9_eq (t2 t6 t8 t10 t29 t30 t31 t39 t40 t41 : Value) (h : AH) (Q : Res → AH → Prop) : X33_9 t2 t6 t8 t10 t29 t30 t31 t39 t40 t41 h Q = wpC Tryz.prog L33 (cAt code33 [.r, .r, .r, .r, .l, .r, .i, .i, .r, .r, .l, .i, .r, .r, .i, .i]) (mkA 84 [(2, t2), (6, t6), (8, t8), (10, t10), (29, t29), (30, t30), (31, t31), (39, t39), (40, t40), (41, t41)]) h (ctxAt Tryz.prog L33 code33 [.r, .r, .r, .r, .l, .r, .i, .i, .r, .r, .l, .i, .r, .r, .i, .i] (retK Tryz.prog res33 Q)) := by kernel_rfl
theorem X33_9_ok {t2 t6 t8 t10 t29 t30 t31 t39 t40 t41 : Value} {h : AH} {Q : Res → AH → Prop} (H : X33_9 t2 t6 t8 t10 t29 t30 t31 t39 t40 t41 h Q) : H33_9 t2 t6 t8 t10 t29 t30 t31 t39 t40 t41 h Q := HL.step (L := L33) ((X33_9_eq t2 t6 t8 t10 t29 t30 t31 t39 t40 t41 h Q).mp H)
noncomputable def X33_6 (t2 t6 t8 t29 t30 t31 : Value) (h : AH) (Q : Res → AH → Prop) : Prop :=
  bq (binV Tryz.prog .lss 3 (.tmp 31) (.tmp 30) t31 t30 h) fun t32 =>
  condP (some t32)
  (bq (ia 1 t29 t31) fun t33 =>
  bq (ld1 h t33) fun t34 =>
  let t10 : Value := t34
  let t35 : Value := t10
  bq (lenS t35) fun t36 =>
  bq (fa 2 1 t2) fun t37 =>
  bq (ld1 h t37) fun t38 =>
  HC Tryz.prog 84 (([] : List Value) ++ [t36, t38] ++ ([] : List Value)).toArray h (resK (fun t39 h => 
  bq (lenL t39) fun t40 =>
  let t41 : Value := (Value.int .i64 0)
  H33_9 t2 t6 t8 t10 t29 t30 t31 t39 t40 t41 h Q) (fun v h => Q (.pan v) h)))
  (let t15 : Value := (Value.slice none 0 0)
  let t70 : Value := t8
  bq (lenL t70) fun t71 =>
  let t72 : Value := (Value.int .i64 0)
  H33_20 t6 t15 t70 t71 t72 h Q)
theorem X33_6_eq (t2 t6 t8 t29 t30 t31 : Value) (h : AH) (Q : Res → AH → Prop) : X33_6 t2 t6 t8 t29 t30 t31 h Q = wpC Tryz.prog L33 (cAt code33 [.r, .r, .r, .r, .l, .r, .i, .i]) (mkA 84 [(2, t2), (6, t6), (8, t8), (29, t29), (30, t30), (31, t31)]) h (ctxAt Tryz.prog L33 code33 [.r, .r, .r, .r, .l, .r, .i, .i] (retK Tryz.prog res33 Q)) := by kernel_rfl
theorem X33_6_ok {t2 t6 t8 t29 t30 t31 : Value} {h : AH} {Q : Res → AH → Prop} (H : X33_6 t2 t6 t8 t29 t30 t31 h Q) : H33_6 t2 t6 t8 t29 t30 t31 h Q := HL.step (L := L33) ((X33_6_eq t2 t6 t8 t29 t30 t31 h Q).mp H)
noncomputable def X33 (t0 t1 : Value) (h : AH) (Q : Res → AH → Prop) : Prop :=
  (fun t2 h => 
  let t4 : Value := (Value.slice none 0 0)
  let t5 : Value := (Value.int .i64 0)
  bq (ldN 4 h t2) fun t19 =>
  HC Tryz.prog 83 (([] : List Value) ++ [t19] ++ ([] : List Value)).toArray h (resK (fun t20 h => 
  let t18 : Value := t20
  bq (opExtract t18 0) fun t21 =>
  bq (opExtract t18 1) fun t22 =>
  let t6 : Value := t21
  let t7 : Value := t22
  let t23 : Value := t7
  bq (binV Tryz.prog .neq 24 (.tmp 23) (.const (Value.int .i64 0)) t23 (Value.int .i64 0) h) fun t24 =>
  condP (some t24)
  (let t25 : Value := t7
  let t4 : Value := (Value.slice none 0 0)
  let t5 : Value := t25
  Q (.ret (.tuple [t4, t5].toArray)) h)
  (bq (fa 1 1 t2) fun t26 =>
  bq (ld1 h t26) fun t27 =>
  bq (opMakeSlice Tryz.prog h 143 t27 t27) fun r => (fun t28 h => 
  let t8 : Value := t28
  let t29 : Value := t1
  bq (lenL t29) fun t30 =>
  let t31 : Value := (Value.int .i64 0)
  H33_6 t2 t6 t8 t29 t30 t31 h Q) r.1 r.2)) (fun v h => Q (.pan v) h))) (opNew h 68 t0.cells).1 (opNew h 68 t0.cells).2
theorem X33_eq (t0 t1 : Value) (h : AH) (Q : Res → AH → Prop) : X33 t0 t1 h Q = wpC Tryz.prog L33 code33 (argA [t0, t1] Tryz.f33.ntmps) h (retK Tryz.prog res33 Q) := by kernel_rfl
theorem X33_body : Tryz.f33.body = some code33 := by kernel_rfl
theorem X33_ok {t0 t1 : Value} {h : AH} {Q : Res → AH → Prop} (H : X33 t0 t1 h Q) : HC Tryz.prog 33 [t0, t1].toArray h Q := HC.body Tryz.func33 X33_body ((X33_eq t0 t1 h Q).mp H)

-- 87 mahout/local.Reduce
noncomputable def code87 : Code := match Tryz.f87.body with | some c => c | none => .skip
noncomputable def res87 : List ResultVar := Tryz.f87.results.toList
def L87 : Nat → Option (List Nat) := fun r => if r = 3 then some [0, 5, 12, 13, 14] else if r = 6 then some [0, 5, 12, 13, 14, 23, 24, 25] else none
noncomputable def H87_3 (t0 t5 t12 t13 t14 : Value) (h : AH) (Q : Res → AH → Prop) : Prop := HL Tryz.prog (cAt code87 [.r, .r, .l, .r, .i, .i]) (mkA 40 [(0, t0), (5, t5), (12, t12), (13, t13), (14, t14)]) h (ctxAt Tryz.prog L87 code87 [.r, .r, .l, .r, .i] (retK Tryz.prog res87 Q))
noncomputable def H87_6 (t0 t5 t12 t13 t14 t23 t24 t25 : Value) (h : AH) (Q : Res → AH → Prop) : Prop := HL Tryz.prog (cAt code87 [.r, .r, .l, .r, .i, .i, .r, .r, .l, .i, .r, .r, .i, .i]) (mkA 40 [(0, t0), (5, t5), (12, t12), (13, t13), (14, t14), (23, t23), (24, t24), (25, t25)]) h (ctxAt Tryz.prog L87 code87 [.r, .r, .l, .r, .i, .i, .r, .r, .l, .i, .r, .r, .i] (retK Tryz.prog res87 Q))
noncomputable def X87_6 (t0 t5 t12 t13 t14 t23 t24 t25 : Value) (h : AH) (Q : Res → AH → Prop) : Prop :=
  bq (binV Tryz.prog .lss 3 (.tmp 25) (.tmp 24) t25 t24 h) fun t26 =>
  condP (some t26)
  (bq (ia 2 t23 t25) fun t27 =>
  bq (ldN 2 h t27) fun t28 =>
  (fun t9 h => 
  bq (stN 2 h t9 t28) fun h => (fun _ h => 
  bq (fa 0 1 t9) fun t29 =>
  bq (ld1 h t29) fun t30 =>
  bq (binV Tryz.prog .add 9 (.tmp 30) (.const (Value.string (ByteArray.mk #[9]))) t30 (Value.string (ByteArray.mk #[9])) h) fun t31 =>
  bq (fa 1 1 t9) fun t32 =>
  bq (ld1 h t32) fun t33 =>
  bq (binV Tryz.prog .add 9 (.tmp 31) (.tmp 33) t31 t33 h) fun t34 =>
  bq (binV Tryz.prog .add 9 (.tmp 34) (.const (Value.string (ByteArray.mk #[10]))) t34 (Value.string (ByteArray.mk #[10])) h) fun t35 =>
  HC Tryz.prog 146 (([] : List Value) ++ [t5, t35] ++ ([] : List Value)).toArray h (resK (fun t36 h => 
  bq (binV Tryz.prog .add 3 (.tmp 25) (.const (Value.int .i64 1)) t25 (Value.int .i64 1) h) fun t37 =>
  let t25 : Value := t37
  H87_6 t0 t5 t12 t13 t14 t23 t24 t25 h Q) (fun v h => Q (.pan v) h))) undef h) (opNew h 33 #[(Value.string (ByteArray.mk #[])), (Value.string (ByteArray.mk #[]))]).1 (opNew h 33 #[(Value.string (ByteArray.mk #[])), (Value.string (ByteArray.mk #[]))]).2)
  (bq (binV Tryz.prog .add 3 (.tmp 14) (.const (Value.int .i64 1)) t14 (Value.int .i64 1) h) fun t38 =>
  let t14 : Value := t38
  H87_3 t0 t5 t12 t13 t14 h Q)
theorem X87_6_eq (t0 t5 t12 t13 t14 t23 t24 t25 : Value) (h : AH) (Q : Res → AH → Prop) : X87_6 t0 t5 t12 t13 t14 t23 t24 t25 h Q = wpC Tryz.prog L87 (cAt code87 [.r, .r, .l, .r, .i, .i, .r, .r, .l, .i, .r, .r, .i, .i]) (mkA 40 [(0, t0), (5, t5), (12, t12), (13, t13), (14, t14), (23, t23), (24, t24), (25, t25)]) h (ctxAt Tryz.prog L87 code87 [.r, .r, .l, .r, .i, .i, .r, .r, .l, .i, .r, .r, .i, .i] (retK Tryz.prog res87 Q)) := by kernel_rfl
theorem X87_6_ok {t0 t5 t12 t13 t14 t23 t24 t25 : Value} {h : AH} {Q : Res → AH → Prop} (H : X87_6 t0 t5 t12 t13 t14 t23 t24 t25 h Q) : H87_6 t0 t5 t12 t13 t14 t23 t24 t25 h Q := HL.step (L := L87) ((X87_6_eq t0 t5 t12 t13 t14 t23 t24 t25 h Q).mp H)
noncomputable def X87_3 (t0 t5 t12 t13 t14 : Value) (h : AH) (Q : Res → AH → Prop) : Prop :=
  bq (binV Tryz.prog .lss 3 (.tmp 14) (.tmp 13) t14 t13 h) fun t15 =>
  condP (some t15)
  (bq (ia 2 t12 t14) fun t16 =>
  bq (ldN 2 h t16) fun t17 =>
  (fun t7 h => 
  bq (stN 2 h t7 t17) fun h => (fun _ h => 
  let t18 : Value := t0
  bq (fa 0 1 t7) fun t19 =>
  bq (ld1 h t19) fun t20 =>
  bq (fa 1 1 t7) fun t21 =>
  bq (ld1 h t21) fun t22 =>
  HC Tryz.prog 45 (([] : List Value) ++ [t18, t20, t22] ++ ([] : List Value)).toArray h (resK (fun t23 h => 
  bq (lenL t23) fun t24 =>
  let t25 : Value := (Value.int .i64 0)
  H87_6 t0 t5 t12 t13 t14 t23 t24 t25 h Q) (fun v h => Q (.pan v) h))) undef h) (opNew h 124 #[(Value.string (ByteArray.mk #[])), (Value.slice none 0 0)]).1 (opNew h 124 #[(Value.string (ByteArray.mk #[])), (Value.slice none 0 0)]).2)
  (HC Tryz.prog 147 (([] : List Value) ++ [t5] ++ ([] : List Value)).toArray h (resK (fun t39 h => 
  let t4 : Value := t39
  Q (.ret t4) h) (fun v h => Q (.pan v) h)))
theorem X87_3_eq (t0 t5 t12 t13 t14 : Value) (h : AH) (Q : Res → AH → Prop) : X87_3 t0 t5 t12 t13 t14 h Q = wpC Tryz.prog L87 (cAt code87 [.r, .r, .l, .r, .i, .i]) (mkA 40 [(0, t0), (5, t5), (12, t12), (13, t13), (14, t14)]) h (ctxAt Tryz.prog L87 code87 [.r, .r, .l, .r, .i, .i] (retK Tryz.prog res87 Q)) := by kernel_rfl
theorem X87_3_ok {t0 t5 t12 t13 t14 : Value} {h : AH} {Q : Res → AH → Prop} (H : X87_3 t0 t5 t12 t13 t14 h Q) : H87_3 t0 t5 t12 t13 t14 h Q := HL.step (L := L87) ((X87_3_eq t0 t5 t12 t13 t14 h Q).mp H)
noncomputable def X87 (t0 t1 : Value) (h : AH) (Q : Res → AH → Prop) : Prop :=
  let t4 : Value := (Value.string (ByteArray.mk #[]))
  (fun t5 h => 
  let t10 : Value := t1
  HC Tryz.prog 66 (([] : List Value) ++ [t10] ++ ([] : List Value)).toArray h (resK (fun t11 h => 
  HC Tryz.prog 65 (([] : List Value) ++ [t11] ++ ([] : List Value)).toArray h (resK (fun t12 h => 
  bq (lenL t12) fun t13 =>
  let t14 : Value := (Value.int .i64 0)
  H87_3 t0 t5 t12 t13 t14 h Q) (fun v h => Q (.pan v) h))) (fun v h => Q (.pan v) h))) (opNew h 260 #[(Value.pointer none), (Value.slice none 0 0)]).1 (opNew h 260 #[(Value.pointer none), (Value.slice none 0 0)]).2
theorem X87_eq (t0 t1 : Value) (h : AH) (Q : Res → AH → Prop) : X87 t0 t1 h Q = wpC Tryz.prog L87 code87 (argA [t0, t1] Tryz.f87.ntmps) h (retK Tryz.prog res87 Q) := by kernel_rfl
theorem X87_body : Tryz.f87.body = some code87 := by kernel_rfl
theorem X87_ok {t0 t1 : Value} {h : AH} {Q : Res → AH → Prop} (H : X87 t0 t1 h Q) : HC Tryz.prog 87 [t0, t1].toArray h Q := HC.body Tryz.func87 X87_body ((X87_eq t0 t1 h Q).mp H)
end Go.Proofs.YtconhcamgebcaaaGreatDoor.X
