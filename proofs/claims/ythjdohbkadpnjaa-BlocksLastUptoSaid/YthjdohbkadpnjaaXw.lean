/-
  PRINTED BY xgen.py (this session's own): what must hold ahead of functions.
-/
import Derived.Test.YthjdohbkadpnjaaAbC
import Derived.Test.YthjdohbkadpnjaaProg
import Derived.KernelRfl
namespace Go.Proofs.Ythjdohbkadpnjaa.X
open Go.Ab
set_option linter.unusedVariables false
set_option maxRecDepth 100000
-- 15 (*mahout/blocks.Manager).Place
noncomputable def code15 : Code := match Try.f15.body with | some c => c | none => .skip
noncomputable def res15 : List ResultVar := Try.f15.results.toList
def L15 : Nat → Option (List Nat) := fun r => if r = 4 then some [0, 1, 3, 11, 12, 22, 23, 24] else if r = 10 then some [11, 15, 42, 43, 44] else none
noncomputable def H15_4 (t0 t1 t3 t11 t12 t22 t23 t24 : Value) (h : AH) (Q : Res → AH → Prop) : Prop := HL Try.prog (cAt code15 [.r, .r, .r, .l, .r, .i, .i]) (mkA 57 [(0, t0), (1, t1), (3, t3), (11, t11), (12, t12), (22, t22), (23, t23), (24, t24)]) h (ctxAt Try.prog L15 code15 [.r, .r, .r, .l, .r, .i] (retK Try.prog res15 Q))
noncomputable def H15_10 (t11 t15 t42 t43 t44 : Value) (h : AH) (Q : Res → AH → Prop) : Prop := HL Try.prog (cAt code15 [.r, .r, .r, .r, .r, .l, .r, .i, .i]) (mkA 57 [(11, t11), (15, t15), (42, t42), (43, t43), (44, t44)]) h (ctxAt Try.prog L15 code15 [.r, .r, .r, .r, .r, .l, .r, .i] (retK Try.prog res15 Q))
noncomputable def X15_10 (t11 t15 t42 t43 t44 : Value) (h : AH) (Q : Res → AH → Prop) : Prop :=
  bq (binV Try.prog .lss 3 (.tmp 44) (.tmp 43) t44 t43 h) fun t45 =>
  condP (some t45)
  (bq (ia 1 t42 t44) fun t46 =>
  bq (ld1 h t46) fun t47 =>
  let t17 : Value := t47
  let t48 : Value := t15
  let t49 : Value := t11
  let t50 : Value := t17
  bq (ia 1 t49 t50) fun t51 =>
  bq (ld1 h t51) fun t52 =>
  bq (bs 3 #[(Value.int .i64 0)] 1 h [(0, 1, t52)]) fun r => (fun t53 h => 
  bq (apT 3 1 8 (some (Value.int .i64 0)) h t48 t53) fun r => (fun t54 h => 
  let t15 : Value := t54
  bq (binV Try.prog .add 3 (.tmp 44) (.const (Value.int .i64 1)) t44 (Value.int .i64 1) h) fun t55 =>
  let t44 : Value := t55
  H15_10 t11 t15 t42 t43 t44 h Q) r.1 r.2) r.1 r.2)
  (let t56 : Value := t15
  let t10 : Value := t56
  Q (.ret t10) h)
theorem X15_10_eq (t11 t15 t42 t43 t44 : Value) (h : AH) (Q : Res → AH → Prop) : X15_10 t11 t15 t42 t43 t44 h Q = wpC Try.prog L15 (cAt code15 [.r, .r, .r, .r, .r, .l, .r, .i, .i]) (mkA 57 [(11, t11), (15, t15), (42, t42), (43, t43), (44, t44)]) h (ctxAt Try.prog L15 code15 [.r, .r, .r, .r, .r, .l, .r, .i, .i] (retK Try.prog res15 Q)) := by kernel_rfl
theorem X15_10_ok {t11 t15 t42 t43 t44 : Value} {h : AH} {Q : Res → AH → Prop} (H : X15_10 t11 t15 t42 t43 t44 h Q) : H15_10 t11 t15 t42 t43 t44 h Q := HL.step (L := L15) ((X15_10_eq t11 t15 t42 t43 t44 h Q).mp H)
noncomputable def X15_4 (t0 t1 t3 t11 t12 t22 t23 t24 : Value) (h : AH) (Q : Res → AH → Prop) : Prop :=
  bq (binV Try.prog .lss 3 (.tmp 24) (.tmp 23) t24 t23 h) fun t25 =>
  condP (some t25)
  (bq (ia 1 t22 t24) fun t26 =>
  bq (ld1 h t26) fun t27 =>
  let t14 : Value := t27
  let t28 : Value := t12
  let t29 : Value := t0
  bq (nilV t29) fun t30 =>
  bq (fa 2 1 t30) fun t31 =>
  bq (ld1 h t31) fun t32 =>
  let t33 : Value := t14
  bq (opLookup Try.prog h 85 t32 t33 false) fun t34 =>
  bq (fd1 0 t34) fun t35 =>
  bq (bs 36 #[(Value.complex .f64 0 0)] 1 h [(0, 1, t35)]) fun r => (fun t36 h => 
  bq (apT 36 1 16 (some (Value.complex .f64 0 0)) h t28 t36) fun r => (fun t37 h => 
  let t12 : Value := t37
  bq (binV Try.prog .add 3 (.tmp 24) (.const (Value.int .i64 1)) t24 (Value.int .i64 1) h) fun t38 =>
  let t24 : Value := t38
  H15_4 t0 t1 t3 t11 t12 t22 t23 t24 h Q) r.1 r.2) r.1 r.2)
  (let t15 : Value := (Value.slice none 0 0)
  let t39 : Value := t1
  let t40 : Value := t12
  let t41 : Value := t3
  HC Try.prog 32 (([] : List Value) ++ [t39, t40, t41] ++ ([] : List Value)).toArray h (resK (fun t42 h => 
  bq (lenL t42) fun t43 =>
  let t44 : Value := (Value.int .i64 0)
  H15_10 t11 t15 t42 t43 t44 h Q) (fun v h => Q (.pan v) h)))
theorem X15_4_eq (t0 t1 t3 t11 t12 t22 t23 t24 : Value) (h : AH) (Q : Res → AH → Prop) : X15_4 t0 t1 t3 t11 t12 t22 t23 t24 h Q = wpC Try.prog L15 (cAt code15 [.r, .r, .r, .l, .r, .i, .i]) (mkA 57 [(0, t0), (1, t1), (3, t3), (11, t11), (12, t12), (22, t22), (23, t23), (24, t24)]) h (ctxAt Try.prog L15 code15 [.r, .r, .r, .l, .r, .i, .i] (retK Try.prog res15 Q)) := by kernel_rfl
theorem X15_4_ok {t0 t1 t3 t11 t12 t22 t23 t24 : Value} {h : AH} {Q : Res → AH → Prop} (H : X15_4 t0 t1 t3 t11 t12 t22 t23 t24 h Q) : H15_4 t0 t1 t3 t11 t12 t22 t23 t24 h Q := HL.step (L := L15) ((X15_4_eq t0 t1 t3 t11 t12 t22 t23 t24 h Q).mp H)
noncomputable def X15 (t0 t1 t2 t3 t4 : Value) (h : AH) (Q : Res → AH → Prop) : Prop :=
  (fun t9 h => 
  let t10 : Value := (Value.slice none 0 0)
  let t18 : Value := t0
  let t19 : Value := t2
  let t20 : Value := (Value.func (.func 30) [].toArray [t9].toArray)
  HC Try.prog 25 (([] : List Value) ++ [t18, t19, t20] ++ ([] : List Value)).toArray h (resK (fun t21 h => 
  let t11 : Value := t21
  let t12 : Value := (Value.slice none 0 0)
  let t22 : Value := t11
  bq (lenL t22) fun t23 =>
  let t24 : Value := (Value.int .i64 0)
  H15_4 t0 t1 t3 t11 t12 t22 t23 t24 h Q) (fun v h => Q (.pan v) h))) (opNew h 26 t4.cells).1 (opNew h 26 t4.cells).2
theorem X15_eq (t0 t1 t2 t3 t4 : Value) (h : AH) (Q : Res → AH → Prop) : X15 t0 t1 t2 t3 t4 h Q = wpC Try.prog L15 code15 (argA [t0, t1, t2, t3, t4] Try.f15.ntmps) h (retK Try.prog res15 Q) := by kernel_rfl
theorem X15_body : Try.f15.body = some code15 := by kernel_rfl
theorem X15_ok {t0 t1 t2 t3 t4 : Value} {h : AH} {Q : Res → AH → Prop} (H : X15 t0 t1 t2 t3 t4 h Q) : HC Try.prog 15 [t0, t1, t2, t3, t4].toArray h Q := HC.body Try.func15 X15_body ((X15_eq t0 t1 t2 t3 t4 h Q).mp H)

-- 32 mahout/where.Spread
noncomputable def code32 : Code := match Try.f32.body with | some c => c | none => .skip
noncomputable def res32 : List ResultVar := Try.f32.results.toList
def L32 : Nat → Option (List Nat) := fun r => if r = 4 then some [2, 4, 7, 8] else if r = 7 then some [2, 4, 7, 8, 9, 10, 29, 30, 31] else if r = 12 then some [2, 4, 7, 8, 9, 10, 29, 30, 31] else none
noncomputable def H32_4 (t2 t4 t7 t8 : Value) (h : AH) (Q : Res → AH → Prop) : Prop := HL Try.prog (cAt code32 [.r, .r, .r, .r, .l, .i, .i]) (mkA 59 [(2, t2), (4, t4), (7, t7), (8, t8)]) h (ctxAt Try.prog L32 code32 [.r, .r, .r, .r, .l, .i] (retK Try.prog res32 Q))
noncomputable def H32_7 (t2 t4 t7 t8 t9 t10 t29 t30 t31 : Value) (h : AH) (Q : Res → AH → Prop) : Prop := HL Try.prog (cAt code32 [.r, .r, .r, .r, .l, .i, .i, .r, .i, .r, .l, .r, .i, .i]) (mkA 59 [(2, t2), (4, t4), (7, t7), (8, t8), (9, t9), (10, t10), (29, t29), (30, t30), (31, t31)]) h (ctxAt Try.prog L32 code32 [.r, .r, .r, .r, .l, .i, .i, .r, .i, .r, .l, .r, .i] (retK Try.prog res32 Q))
noncomputable def J32_12 (t2 t4 t7 t8 t9 t10 t29 t30 t31 : Value) (h : AH) (Q : Res → AH → Prop) : Prop := wpC Try.prog L32 (cAt code32 [.r, .r, .r, .r, .l, .i, .i, .r, .i, .r, .l, .r, .i, .i, .r, .r, .r]) (mkA 59 [(2, t2), (4, t4), (7, t7), (8, t8), (9, t9), (10, t10), (29, t29), (30, t30), (31, t31)]) h (ctxAt Try.prog L32 code32 [.r, .r, .r, .r, .l, .i, .i, .r, .i, .r, .l, .r, .i, .i, .r, .r, .r] (retK Try.prog res32 Q))
noncomputable def X32_12 (t2 t4 t7 t8 t9 t10 t29 t30 t31 : Value) (h : AH) (Q : Res → AH → Prop) : Prop :=
  bq (binV Try.prog .add 3 (.tmp 31) (.const (Value.int .i64 1)) t31 (Value.int .i64 1) h) fun t45 =>
  let t31 : Value := t45
  H32_7 t2 t4 t7 t8 t9 t10 t29 t30 t31 h Q
theorem X32_12_eq (t2 t4 t7 t8 t9 t10 t29 t30 t31 : Value) (h : AH) (Q : Res → AH → Prop) : X32_12 t2 t4 t7 t8 t9 t10 t29 t30 t31 h Q = wpC Try.prog L32 (cAt code32 [.r, .r, .r, .r, .l, .i, .i, .r, .i, .r, .l, .r, .i, .i, .r, .r, .r]) (mkA 59 [(2, t2), (4, t4), (7, t7), (8, t8), (9, t9), (10, t10), (29, t29), (30, t30), (31, t31)]) h (ctxAt Try.prog L32 code32 [.r, .r, .r, .r, .l, .i, .i, .r, .i, .r, .l, .r, .i, .i, .r, .r, .r] (retK Try.prog res32 Q)) := by kernel_rfl
theorem X32_12_ok {t2 t4 t7 t8 t9 t10 t29 t30 t31 : Value} {h : AH} {Q : Res → AH → Prop} (H : X32_12 t2 t4 t7 t8 t9 t10 t29 t30 t31 h Q) : J32_12 t2 t4 t7 t8 t9 t10 t29 t30 t31 h Q := (X32_12_eq t2 t4 t7 t8 t9 t10 t29 t30 t31 h Q).mp H
noncomputable def X32_7 (t2 t4 t7 t8 t9 t10 t29 t30 t31 : Value) (h : AH) (Q : Res → AH → Prop) : Prop :=
  bq (binV Try.prog .lss 3 (.tmp 31) (.tmp 30) t31 t30 h) fun t32 =>
  condP (some t32)
  (let t33 : Value := t31
  bq (ia 1 t29 t31) fun t34 =>
  bq (ld1 h t34) fun t35 =>
  let t11 : Value := t33
  let t12 : Value := t35
  bq (ld1 h t4) fun t36 =>
  let t37 : Value := t12
  let t38 : Value := t8
  HC Try.prog 49 (([] : List Value) ++ [t36, t37, t38] ++ ([] : List Value)).toArray h (resK (fun t39 h => 
  let t13 : Value := t39
  let t40 : Value := t13
  let t41 : Value := t10
  bq (binV Try.prog .gtr 3 (.tmp 40) (.tmp 41) t40 t41 h) fun t42 =>
  condP (some t42)
  (let t43 : Value := t11
  let t44 : Value := t13
  let t9 : Value := t43
  let t10 : Value := t44
  J32_12 t2 t4 t7 t8 t9 t10 t29 t30 t31 h Q)
  (J32_12 t2 t4 t7 t8 t9 t10 t29 t30 t31 h Q)) (fun v h => Q (.pan v) h)))
  (let t46 : Value := t8
  let t47 : Value := t7
  let t48 : Value := t9
  bq (ia 1 t47 t48) fun t49 =>
  bq (ld1 h t49) fun t50 =>
  bq (bs 3 #[(Value.int .i64 0)] 1 h [(0, 1, t50)]) fun r => (fun t51 h => 
  bq (apT 3 1 8 (some (Value.int .i64 0)) h t46 t51) fun r => (fun t52 h => 
  let t8 : Value := t52
  let t53 : Value := t7
  let t54 : Value := t9
  let t55 : Value := t9
  bq (binV Try.prog .add 3 (.tmp 55) (.const (Value.int .i64 1)) t55 (Value.int .i64 1) h) fun t56 =>
  HC Try.prog 50 (([] : List Value) ++ [t53, t54, t56] ++ ([] : List Value)).toArray h (resK (fun t57 h => 
  let t7 : Value := t57
  H32_4 t2 t4 t7 t8 h Q) (fun v h => Q (.pan v) h))) r.1 r.2) r.1 r.2)
theorem X32_7_eq (t2 t4 t7 t8 t9 t10 t29 t30 t31 : Value) (h : AH) (Q : Res → AH → Prop) : X32_7 t2 t4 t7 t8 t9 t10 t29 t30 t31 h Q = wpC Try.prog L32 (cAt code32 [.r, .r, .r, .r, .l, .i, .i, .r, .i, .r, .l, .r, .i, .i]) (mkA 59 [(2, t2), (4, t4), (7, t7), (8, t8), (9, t9), (10, t10), (29, t29), (30, t30), (31, t31)]) h (ctxAt Try.prog L32 code32 [.r, .r, .r, .r, .l, .i, .i, .r, .i, .r, .l, .r, .i, .i] (retK Try.prog res32 Q)) := by kernel_rfl
theorem X32_7_ok {t2 t4 t7 t8 t9 t10 t29 t30 t31 : Value} {h : AH} {Q : Res → AH → Prop} (H : X32_7 t2 t4 t7 t8 t9 t10 t29 t30 t31 h Q) : H32_7 t2 t4 t7 t8 t9 t10 t29 t30 t31 h Q := HL.step (L := L32) ((X32_7_eq t2 t4 t7 t8 t9 t10 t29 t30 t31 h Q).mp H)
noncomputable def X32_4 (t2 t4 t7 t8 : Value) (h : AH) (Q : Res → AH → Prop) : Prop :=
  let t20 : Value := t8
  bq (lenL t20) fun t21 =>
  let t22 : Value := t2
  bq (binV Try.prog .lss 3 (.tmp 21) (.tmp 22) t21 t22 h) fun t23 =>
  let t24 : Value := t23
  guardQ t24 true h (fun k => k t7 h) fun t25 h =>
  guardQ t24 true h (fun k => bq (lenL t25) fun v => k v h) fun t26 h =>
  guardQ t24 true h (fun k => bq (binV Try.prog .gtr 3 (.tmp 26) (.const (Value.int .i64 0)) t26 (Value.int .i64 0) h) fun v => k v h) fun t27 h =>
  bq (pickV t24 t27 (Value.bool false)) fun t28 =>
  condP (some t28)
  (let t9 : Value := (Value.int .i64 0)
  let t10 : Value := (Value.int .i64 (-1))
  let t29 : Value := t7
  bq (lenL t29) fun t30 =>
  let t31 : Value := (Value.int .i64 0)
  H32_7 t2 t4 t7 t8 t9 t10 t29 t30 t31 h Q)
  (let t58 : Value := t8
  let t6 : Value := t58
  Q (.ret t6) h)
theorem X32_4_eq (t2 t4 t7 t8 : Value) (h : AH) (Q : Res → AH → Prop) : X32_4 t2 t4 t7 t8 h Q = wpC Try.prog L32 (cAt code32 [.r, .r, .r, .r, .l, .i, .i]) (mkA 59 [(2, t2), (4, t4), (7, t7), (8, t8)]) h (ctxAt Try.prog L32 code32 [.r, .r, .r, .r, .l, .i, .i] (retK Try.prog res32 Q)) := by kernel_rfl
theorem X32_4_ok {t2 t4 t7 t8 : Value} {h : AH} {Q : Res → AH → Prop} (H : X32_4 t2 t4 t7 t8 h Q) : H32_4 t2 t4 t7 t8 h Q := HL.step (L := L32) ((X32_4_eq t2 t4 t7 t8 h Q).mp H)
noncomputable def X32 (t0 t1 t2 : Value) (h : AH) (Q : Res → AH → Prop) : Prop :=
  (fun t3 h => 
  (fun t4 h => 
  let t6 : Value := (Value.slice none 0 0)
  bq (ld1 h t3) fun t14 =>
  bq (ld1 h t4) fun t15 =>
  HC Try.prog 45 (([] : List Value) ++ [t14, t15] ++ ([] : List Value)).toArray h (resK (fun t16 h => 
  let t7 : Value := t16
  let t17 : Value := t7
  let t18 : Value := (Value.func (.func 47) [].toArray [t3, t4].toArray)
  HC Try.prog 46 (([] : List Value) ++ [t17, t18] ++ ([] : List Value)).toArray h (resK (fun t19 h => 
  let t7 : Value := t19
  let t8 : Value := (Value.slice none 0 0)
  H32_4 t2 t4 t7 t8 h Q) (fun v h => Q (.pan v) h))) (fun v h => Q (.pan v) h))) (opNew h 84 t1.cells).1 (opNew h 84 t1.cells).2) (opNew h 36 t0.cells).1 (opNew h 36 t0.cells).2
theorem X32_eq (t0 t1 t2 : Value) (h : AH) (Q : Res → AH → Prop) : X32 t0 t1 t2 h Q = wpC Try.prog L32 code32 (argA [t0, t1, t2] Try.f32.ntmps) h (retK Try.prog res32 Q) := by kernel_rfl
theorem X32_body : Try.f32.body = some code32 := by kernel_rfl
theorem X32_ok {t0 t1 t2 : Value} {h : AH} {Q : Res → AH → Prop} (H : X32 t0 t1 t2 h Q) : HC Try.prog 32 [t0, t1, t2].toArray h Q := HC.body Try.func32 X32_body ((X32_eq t0 t1 t2 h Q).mp H)

-- 45 mahout/where.Near
noncomputable def code45 : Code := match Try.f45.body with | some c => c | none => .skip
noncomputable def res45 : List ResultVar := Try.f45.results.toList
def L45 : Nat → Option (List Nat) := fun r => if r = 4 then some [0, 5, 6, 15, 16, 17] else none
noncomputable def H45_4 (t0 t5 t6 t15 t16 t17 : Value) (h : AH) (Q : Res → AH → Prop) : Prop := HL Try.prog (cAt code45 [.r, .r, .r, .l, .r, .i, .i]) (mkA 38 [(0, t0), (5, t5), (6, t6), (15, t15), (16, t16), (17, t17)]) h (ctxAt Try.prog L45 code45 [.r, .r, .r, .l, .r, .i] (retK Try.prog res45 Q))
noncomputable def X45_4 (t0 t5 t6 t15 t16 t17 : Value) (h : AH) (Q : Res → AH → Prop) : Prop :=
  bq (binV Try.prog .lss 3 (.tmp 17) (.tmp 16) t17 t16 h) fun t18 =>
  condP (some t18)
  (let t19 : Value := t17
  bq (ia 1 t15 t17) fun t20 =>
  bq (ld1 h t20) fun t21 =>
  let t7 : Value := t19
  let t8 : Value := t21
  let t22 : Value := t5
  let t23 : Value := t7
  let t24 : Value := t7
  bq (ia 1 t22 t23) fun t25 =>
  bq (stN 1 h t25 t24) fun h => (fun _ h => 
  bq (ld1 h t6) fun t26 => ((let t27 : Value := t7
  (let t28 : Value := t0
  (let t29 : Value := t8
  exP Try.prog 48 (([] : List Value) ++ [t28, t29] ++ ([] : List Value)).toArray h fun t30 g => g = h ∧ (bq (convV Try.prog 3 120 t30 h) fun r => (fun t31 h7_5 => (bq (ia 1 t26 t27) fun t32 => (bq (stN 1 h7_5 t32 t31) fun h7_7 => (let v7_7 : Value := undef
  (True) ∧
  (fun h => 
  bq (binV Try.prog .add 3 (.tmp 17) (.const (Value.int .i64 1)) t17 (Value.int .i64 1) h) fun t33 =>
  let t17 : Value := t33
  H45_4 t0 t5 t6 t15 t16 t17 h Q) h7_7)))) r.1 r.2)))))) undef h)
  (let t34 : Value := t5
  let t35 : Value := (Value.func (.func 62) [].toArray [t6].toArray)
  HC Try.prog 61 (([] : List Value) ++ [t34, t35] ++ ([] : List Value)).toArray h (resK (fun t36 h => 
  let t37 : Value := t5
  let t4 : Value := t37
  Q (.ret t4) h) (fun v h => Q (.pan v) h)))
theorem X45_4_eq (t0 t5 t6 t15 t16 t17 : Value) (h : AH) (Q : Res → AH → Prop) : X45_4 t0 t5 t6 t15 t16 t17 h Q = wpC Try.prog L45 (cAt code45 [.r, .r, .r, .l, .r, .i, .i]) (mkA 38 [(0, t0), (5, t5), (6, t6), (15, t15), (16, t16), (17, t17)]) h (ctxAt Try.prog L45 code45 [.r, .r, .r, .l, .r, .i, .i] (retK Try.prog res45 Q)) := by kernel_rfl
theorem X45_4_ok {t0 t5 t6 t15 t16 t17 : Value} {h : AH} {Q : Res → AH → Prop} (H : X45_4 t0 t5 t6 t15 t16 t17 h Q) : H45_4 t0 t5 t6 t15 t16 t17 h Q := HL.step (L := L45) ((X45_4_eq t0 t5 t6 t15 t16 t17 h Q).mp H)
noncomputable def X45 (t0 t1 : Value) (h : AH) (Q : Res → AH → Prop) : Prop :=
  let t4 : Value := (Value.slice none 0 0)
  let t9 : Value := t1
  bq (lenL t9) fun t10 =>
  bq (opMakeSlice Try.prog h 26 t10 t10) fun r => (fun t11 h => 
  let t5 : Value := t11
  let t12 : Value := t1
  bq (lenL t12) fun t13 =>
  bq (opMakeSlice Try.prog h 121 t13 t13) fun r => (fun t14 h => 
  (fun t6 h => 
  bq (stN 1 h t6 t14) fun h => (fun _ h => 
  let t15 : Value := t1
  bq (lenL t15) fun t16 =>
  let t17 : Value := (Value.int .i64 0)
  H45_4 t0 t5 t6 t15 t16 t17 h Q) undef h) (opNew h 121 #[(Value.slice none 0 0)]).1 (opNew h 121 #[(Value.slice none 0 0)]).2) r.1 r.2) r.1 r.2
theorem X45_eq (t0 t1 : Value) (h : AH) (Q : Res → AH → Prop) : X45 t0 t1 h Q = wpC Try.prog L45 code45 (argA [t0, t1] Try.f45.ntmps) h (retK Try.prog res45 Q) := by kernel_rfl
theorem X45_body : Try.f45.body = some code45 := by kernel_rfl
theorem X45_ok {t0 t1 : Value} {h : AH} {Q : Res → AH → Prop} (H : X45 t0 t1 h Q) : HC Try.prog 45 [t0, t1].toArray h Q := HC.body Try.func45 X45_body ((X45_eq t0 t1 h Q).mp H)

-- 46 slices.DeleteFunc[[]int,int]
noncomputable def code46 : Code := match Try.f46.body with | some c => c | none => .skip
noncomputable def res46 : List ResultVar := Try.f46.results.toList
def L46 : Nat → Option (List Nat) := fun r => if r = 5 then some [0, 1, 5, 6] else if r = 6 then some [0, 1, 5, 6] else none
noncomputable def H46_5 (t0 t1 t5 t6 : Value) (h : AH) (Q : Res → AH → Prop) : Prop := HL Try.prog (cAt code46 [.r, .r, .r, .l, .r, .i, .i]) (mkA 42 [(0, t0), (1, t1), (5, t5), (6, t6)]) h (ctxAt Try.prog L46 code46 [.r, .r, .r, .l, .r, .i] (retK Try.prog res46 Q))
noncomputable def J46_6 (t0 t1 t5 t6 : Value) (h : AH) (Q : Res → AH → Prop) : Prop := wpC Try.prog L46 (cAt code46 [.r, .r, .r, .l, .r, .i, .i, .r, .r]) (mkA 42 [(0, t0), (1, t1), (5, t5), (6, t6)]) h (ctxAt Try.prog L46 code46 [.r, .r, .r, .l, .r, .i, .i, .r, .r] (retK Try.prog res46 Q))
noncomputable def X46_6 (t0 t1 t5 t6 : Value) (h : AH) (Q : Res → AH → Prop) : Prop :=
  let t20 : Value := t6
  bq (binV Try.prog .add 3 (.tmp 20) (.const (Value.int .i64 1)) t20 (Value.int .i64 1) h) fun t21 =>
  let t6 : Value := t21
  H46_5 t0 t1 t5 t6 h Q
theorem X46_6_eq (t0 t1 t5 t6 : Value) (h : AH) (Q : Res → AH → Prop) : X46_6 t0 t1 t5 t6 h Q = wpC Try.prog L46 (cAt code46 [.r, .r, .r, .l, .r, .i, .i, .r, .r]) (mkA 42 [(0, t0), (1, t1), (5, t5), (6, t6)]) h (ctxAt Try.prog L46 code46 [.r, .r, .r, .l, .r, .i, .i, .r, .r] (retK Try.prog res46 Q)) := by kernel_rfl
theorem X46_6_ok {t0 t1 t5 t6 : Value} {h : AH} {Q : Res → AH → Prop} (H : X46_6 t0 t1 t5 t6 h Q) : J46_6 t0 t1 t5 t6 h Q := (X46_6_eq t0 t1 t5 t6 h Q).mp H
noncomputable def X46_5 (t0 t1 t5 t6 : Value) (h : AH) (Q : Res → AH → Prop) : Prop :=
  let t16 : Value := t6
  let t17 : Value := t0
  bq (lenL t17) fun t18 =>
  bq (binV Try.prog .lss 3 (.tmp 16) (.tmp 18) t16 t18 h) fun t19 =>
  condP (some t19)
  (let t22 : Value := t0
  let t23 : Value := t6
  bq (ia 1 t22 t23) fun t24 =>
  bq (ld1 h t24) fun t25 =>
  let t7 : Value := t25
  let t26 : Value := t1
  let t27 : Value := t7
  callP Try.prog t26 [t27] h (fun t28 h => 
  bq (unV Try.prog .not t28) fun t29 =>
  condP (some t29)
  (let t30 : Value := t0
  let t31 : Value := t5
  let t32 : Value := t7
  bq (ia 1 t30 t31) fun t33 =>
  bq (stN 1 h t33 t32) fun h => (fun _ h => 
  let t34 : Value := t5
  bq (binV Try.prog .add 3 (.tmp 34) (.const (Value.int .i64 1)) t34 (Value.int .i64 1) h) fun t35 =>
  let t5 : Value := t35
  J46_6 t0 t1 t5 t6 h Q) undef h)
  (J46_6 t0 t1 t5 t6 h Q)) (fun v h => Q (.pan v) h))
  (let t36 : Value := t0
  let t37 : Value := t5
  bq (sliceV Try.prog h 26 t36 (some t37) none) fun t38 =>
  bq (opClear Try.prog h 26 t38) fun h => (fun _ h => 
  let t39 : Value := t0
  let t40 : Value := t5
  bq (sliceV Try.prog h 26 t39 none (some t40)) fun t41 =>
  let t4 : Value := t41
  Q (.ret t4) h) (Value.tuple #[]) h)
theorem X46_5_eq (t0 t1 t5 t6 : Value) (h : AH) (Q : Res → AH → Prop) : X46_5 t0 t1 t5 t6 h Q = wpC Try.prog L46 (cAt code46 [.r, .r, .r, .l, .r, .i, .i]) (mkA 42 [(0, t0), (1, t1), (5, t5), (6, t6)]) h (ctxAt Try.prog L46 code46 [.r, .r, .r, .l, .r, .i, .i] (retK Try.prog res46 Q)) := by kernel_rfl
theorem X46_5_ok {t0 t1 t5 t6 : Value} {h : AH} {Q : Res → AH → Prop} (H : X46_5 t0 t1 t5 t6 h Q) : H46_5 t0 t1 t5 t6 h Q := HL.step (L := L46) ((X46_5_eq t0 t1 t5 t6 h Q).mp H)
noncomputable def X46 (t0 t1 : Value) (h : AH) (Q : Res → AH → Prop) : Prop :=
  let t4 : Value := (Value.slice none 0 0)
  let t8 : Value := t0
  let t9 : Value := t1
  HC Try.prog 64 (([] : List Value) ++ [t8, t9] ++ ([] : List Value)).toArray h (resK (fun t10 h => 
  let t5 : Value := t10
  let t11 : Value := t5
  bq (binV Try.prog .eql 3 (.tmp 11) (.const (Value.int .i64 (-1))) t11 (Value.int .i64 (-1)) h) fun t12 =>
  condP (some t12)
  (let t13 : Value := t0
  let t4 : Value := t13
  Q (.ret t4) h)
  (let t14 : Value := t5
  bq (binV Try.prog .add 3 (.tmp 14) (.const (Value.int .i64 1)) t14 (Value.int .i64 1) h) fun t15 =>
  let t6 : Value := t15
  H46_5 t0 t1 t5 t6 h Q)) (fun v h => Q (.pan v) h))
theorem X46_eq (t0 t1 : Value) (h : AH) (Q : Res → AH → Prop) : X46 t0 t1 h Q = wpC Try.prog L46 code46 (argA [t0, t1] Try.f46.ntmps) h (retK Try.prog res46 Q) := by kernel_rfl
theorem X46_body : Try.f46.body = some code46 := by kernel_rfl
theorem X46_ok {t0 t1 : Value} {h : AH} {Q : Res → AH → Prop} (H : X46 t0 t1 h Q) : HC Try.prog 46 [t0, t1].toArray h Q := HC.body Try.func46 X46_body ((X46_eq t0 t1 h Q).mp H)

-- 47 mahout/where.Spread$1
noncomputable def code47 : Code := match Try.f47.body with | some c => c | none => .skip
noncomputable def res47 : List ResultVar := Try.f47.results.toList
def L47 : Nat → Option (List Nat) := fun r => none
noncomputable def X47 (t0 t1 t2 : Value) (h : AH) (Q : Res → AH → Prop) : Prop :=
  let t4 : Value := (Value.bool false)
  bq (ld1 h t1) fun t5 =>
  bq (ld1 h t2) fun t6 =>
  let t7 : Value := t0
  bq (ia 1 t6 t7) fun t8 =>
  bq (ld1 h t8) fun t9 =>
  exP Try.prog 48 (([] : List Value) ++ [t5, t9] ++ ([] : List Value)).toArray h (fun t10 h => 
  bq (binV Try.prog .lss 3 (.tmp 10) (.const (Value.int .i64 0)) t10 (Value.int .i64 0) h) fun t11 =>
  let t4 : Value := t11
  Q (.ret t4) h)
theorem X47_eq (t0 t1 t2 : Value) (h : AH) (Q : Res → AH → Prop) : X47 t0 t1 t2 h Q = wpC Try.prog L47 code47 (argA [t0, t1, t2] Try.f47.ntmps) h (retK Try.prog res47 Q) := by kernel_rfl
theorem X47_body : Try.f47.body = some code47 := by kernel_rfl
theorem X47_ok {t0 t1 t2 : Value} {h : AH} {Q : Res → AH → Prop} (H : X47 t0 t1 t2 h Q) : HC Try.prog 47 [t0, t1, t2].toArray h Q := HC.body Try.func47 X47_body ((X47_eq t0 t1 t2 h Q).mp H)

-- 48 mahout/where.Dist
noncomputable def code48 : Code := match Try.f48.body with | some c => c | none => .skip
noncomputable def res48 : List ResultVar := Try.f48.results.toList
def L48 : Nat → Option (List Nat) := fun r => none
noncomputable def X48 (t0 t1 : Value) (h : AH) (Q : Res → AH → Prop) : Prop :=
  let t4 : Value := (Value.int .i64 0)
  let t6 : Value := t0
  HC Try.prog 65 (([] : List Value) ++ [t6] ++ ([] : List Value)).toArray h (resK (fun t7 h => 
  bq (unV Try.prog .not t7) fun t8 =>
  let t9 : Value := t8
  guardQ t9 false h (fun k => k t1 h) fun t10 h =>
  guardQ t9 false h (fun k => HC Try.prog 65 (([] : List Value) ++ [t10] ++ ([] : List Value)).toArray h (resK k (fun v h => Q (.pan v) h))) fun t11 h =>
  guardQ t9 false h (fun k => bq (unV Try.prog .not t11) fun v => k v h) fun t12 h =>
  bq (pickV t9 (Value.bool true) t12) fun t13 =>
  condP (some t13)
  (let t4 : Value := (Value.int .i64 (-1))
  Q (.ret t4) h)
  (let t14 : Value := t0
  let t15 : Value := t1
  bq (binV Try.prog .sub 36 (.tmp 14) (.tmp 15) t14 t15 h) fun t16 =>
  let t5 : Value := t16
  let t17 : Value := t5
  let t18 : Value := t5
  HC Try.prog 66 (([] : List Value) ++ [t18] ++ ([] : List Value)).toArray h (resK (fun t19 h => 
  bq (binV Try.prog .mul 36 (.tmp 17) (.tmp 19) t17 t19 h) fun t20 =>
  (if [t20].all (plainN 12) then bq (flatV Try.prog (Builtin.real_ #[36] 37 [t20].toArray)) fun t21 => 
  bq (convV Try.prog 37 3 t21 h) fun r => (fun t22 h => 
  let t4 : Value := t22
  Q (.ret t4) h) r.1 r.2 else False)) (fun v h => Q (.pan v) h)))) (fun v h => Q (.pan v) h))
theorem X48_eq (t0 t1 : Value) (h : AH) (Q : Res → AH → Prop) : X48 t0 t1 h Q = wpC Try.prog L48 code48 (argA [t0, t1] Try.f48.ntmps) h (retK Try.prog res48 Q) := by kernel_rfl
theorem X48_body : Try.f48.body = some code48 := by kernel_rfl
theorem X48_ok {t0 t1 : Value} {h : AH} {Q : Res → AH → Prop} (H : X48 t0 t1 h Q) : HC Try.prog 48 [t0, t1].toArray h Q := HC.body Try.func48 X48_body ((X48_eq t0 t1 h Q).mp H)

-- 49 mahout/where.least
noncomputable def code49 : Code := match Try.f49.body with | some c => c | none => .skip
noncomputable def res49 : List ResultVar := Try.f49.results.toList
def L49 : Nat → Option (List Nat) := fun r => if r = 3 then some [0, 1, 7, 11, 12, 13] else if r = 8 then some [0, 1, 7, 11, 12, 13] else none
noncomputable def H49_3 (t0 t1 t7 t11 t12 t13 : Value) (h : AH) (Q : Res → AH → Prop) : Prop := HL Try.prog (cAt code49 [.r, .r, .l, .r, .i, .i]) (mkA 37 [(0, t0), (1, t1), (7, t7), (11, t11), (12, t12), (13, t13)]) h (ctxAt Try.prog L49 code49 [.r, .r, .l, .r, .i] (retK Try.prog res49 Q))
noncomputable def J49_8 (t0 t1 t7 t11 t12 t13 : Value) (h : AH) (Q : Res → AH → Prop) : Prop := wpC Try.prog L49 (cAt code49 [.r, .r, .l, .r, .i, .i, .r, .r, .r]) (mkA 37 [(0, t0), (1, t1), (7, t7), (11, t11), (12, t12), (13, t13)]) h (ctxAt Try.prog L49 code49 [.r, .r, .l, .r, .i, .i, .r, .r, .r] (retK Try.prog res49 Q))
noncomputable def X49_8 (t0 t1 t7 t11 t12 t13 : Value) (h : AH) (Q : Res → AH → Prop) : Prop :=
  bq (binV Try.prog .add 3 (.tmp 13) (.const (Value.int .i64 1)) t13 (Value.int .i64 1) h) fun t35 =>
  let t13 : Value := t35
  H49_3 t0 t1 t7 t11 t12 t13 h Q
theorem X49_8_eq (t0 t1 t7 t11 t12 t13 : Value) (h : AH) (Q : Res → AH → Prop) : X49_8 t0 t1 t7 t11 t12 t13 h Q = wpC Try.prog L49 (cAt code49 [.r, .r, .l, .r, .i, .i, .r, .r, .r]) (mkA 37 [(0, t0), (1, t1), (7, t7), (11, t11), (12, t12), (13, t13)]) h (ctxAt Try.prog L49 code49 [.r, .r, .l, .r, .i, .i, .r, .r, .r] (retK Try.prog res49 Q)) := by kernel_rfl
theorem X49_8_ok {t0 t1 t7 t11 t12 t13 : Value} {h : AH} {Q : Res → AH → Prop} (H : X49_8 t0 t1 t7 t11 t12 t13 h Q) : J49_8 t0 t1 t7 t11 t12 t13 h Q := (X49_8_eq t0 t1 t7 t11 t12 t13 h Q).mp H
noncomputable def X49_3 (t0 t1 t7 t11 t12 t13 : Value) (h : AH) (Q : Res → AH → Prop) : Prop :=
  bq (binV Try.prog .lss 3 (.tmp 13) (.tmp 12) t13 t12 h) fun t14 =>
  condP (some t14)
  (let t15 : Value := t13
  bq (ia 1 t11 t13) fun t16 =>
  bq (ld1 h t16) fun t17 =>
  let t8 : Value := t15
  let t9 : Value := t17
  let t18 : Value := t0
  let t19 : Value := t1
  bq (ia 1 t18 t19) fun t20 =>
  bq (ld1 h t20) fun t21 =>
  let t22 : Value := t0
  let t23 : Value := t9
  bq (ia 1 t22 t23) fun t24 =>
  bq (ld1 h t24) fun t25 =>
  exP Try.prog 48 (([] : List Value) ++ [t21, t25] ++ ([] : List Value)).toArray h (fun t26 h => 
  let t10 : Value := t26
  let t27 : Value := t8
  bq (binV Try.prog .eql 3 (.tmp 27) (.const (Value.int .i64 0)) t27 (Value.int .i64 0) h) fun t28 =>
  let t29 : Value := t28
  guardQ t29 false h (fun k => k t10 h) fun t30 h =>
  guardQ t29 false h (fun k => k t7 h) fun t31 h =>
  guardQ t29 false h (fun k => bq (binV Try.prog .lss 3 (.tmp 30) (.tmp 31) t30 t31 h) fun v => k v h) fun t32 h =>
  bq (pickV t29 (Value.bool true) t32) fun t33 =>
  condP (some t33)
  (let t34 : Value := t10
  let t7 : Value := t34
  J49_8 t0 t1 t7 t11 t12 t13 h Q)
  (J49_8 t0 t1 t7 t11 t12 t13 h Q)))
  (let t36 : Value := t7
  let t6 : Value := t36
  Q (.ret t6) h)
theorem X49_3_eq (t0 t1 t7 t11 t12 t13 : Value) (h : AH) (Q : Res → AH → Prop) : X49_3 t0 t1 t7 t11 t12 t13 h Q = wpC Try.prog L49 (cAt code49 [.r, .r, .l, .r, .i, .i]) (mkA 37 [(0, t0), (1, t1), (7, t7), (11, t11), (12, t12), (13, t13)]) h (ctxAt Try.prog L49 code49 [.r, .r, .l, .r, .i, .i] (retK Try.prog res49 Q)) := by kernel_rfl
theorem X49_3_ok {t0 t1 t7 t11 t12 t13 : Value} {h : AH} {Q : Res → AH → Prop} (H : X49_3 t0 t1 t7 t11 t12 t13 h Q) : H49_3 t0 t1 t7 t11 t12 t13 h Q := HL.step (L := L49) ((X49_3_eq t0 t1 t7 t11 t12 t13 h Q).mp H)
noncomputable def X49 (t0 t1 t2 : Value) (h : AH) (Q : Res → AH → Prop) : Prop :=
  let t6 : Value := (Value.int .i64 0)
  let t7 : Value := (Value.int .i64 0)
  let t11 : Value := t2
  bq (lenL t11) fun t12 =>
  let t13 : Value := (Value.int .i64 0)
  H49_3 t0 t1 t7 t11 t12 t13 h Q
theorem X49_eq (t0 t1 t2 : Value) (h : AH) (Q : Res → AH → Prop) : X49 t0 t1 t2 h Q = wpC Try.prog L49 code49 (argA [t0, t1, t2] Try.f49.ntmps) h (retK Try.prog res49 Q) := by kernel_rfl
theorem X49_body : Try.f49.body = some code49 := by kernel_rfl
theorem X49_ok {t0 t1 t2 : Value} {h : AH} {Q : Res → AH → Prop} (H : X49 t0 t1 t2 h Q) : HC Try.prog 49 [t0, t1, t2].toArray h Q := HC.body Try.func49 X49_body ((X49_eq t0 t1 t2 h Q).mp H)

-- 64 slices.IndexFunc[[]int,int]
noncomputable def code64 : Code := match Try.f64.body with | some c => c | none => .skip
noncomputable def res64 : List ResultVar := Try.f64.results.toList
def L64 : Nat → Option (List Nat) := fun r => if r = 2 then some [0, 1, 7, 8] else none
noncomputable def H64_2 (t0 t1 t7 t8 : Value) (h : AH) (Q : Res → AH → Prop) : Prop := HL Try.prog (cAt code64 [.r, .l, .r, .i, .i]) (mkA 19 [(0, t0), (1, t1), (7, t7), (8, t8)]) h (ctxAt Try.prog L64 code64 [.r, .l, .r, .i] (retK Try.prog res64 Q))
noncomputable def X64_2 (t0 t1 t7 t8 : Value) (h : AH) (Q : Res → AH → Prop) : Prop :=
  bq (binV Try.prog .lss 3 (.tmp 8) (.tmp 7) t8 t7 h) fun t9 =>
  condP (some t9)
  (let t10 : Value := t8
  let t5 : Value := t10
  let t11 : Value := t1
  let t12 : Value := t0
  let t13 : Value := t5
  bq (ia 1 t12 t13) fun t14 =>
  bq (ld1 h t14) fun t15 =>
  callP Try.prog t11 [t15] h (fun t16 h => 
  condP (some t16)
  (let t17 : Value := t5
  let t4 : Value := t17
  Q (.ret t4) h)
  (bq (binV Try.prog .add 3 (.tmp 8) (.const (Value.int .i64 1)) t8 (Value.int .i64 1) h) fun t18 =>
  let t8 : Value := t18
  H64_2 t0 t1 t7 t8 h Q)) (fun v h => Q (.pan v) h))
  (let t4 : Value := (Value.int .i64 (-1))
  Q (.ret t4) h)
theorem X64_2_eq (t0 t1 t7 t8 : Value) (h : AH) (Q : Res → AH → Prop) : X64_2 t0 t1 t7 t8 h Q = wpC Try.prog L64 (cAt code64 [.r, .l, .r, .i, .i]) (mkA 19 [(0, t0), (1, t1), (7, t7), (8, t8)]) h (ctxAt Try.prog L64 code64 [.r, .l, .r, .i, .i] (retK Try.prog res64 Q)) := by kernel_rfl
theorem X64_2_ok {t0 t1 t7 t8 : Value} {h : AH} {Q : Res → AH → Prop} (H : X64_2 t0 t1 t7 t8 h Q) : H64_2 t0 t1 t7 t8 h Q := HL.step (L := L64) ((X64_2_eq t0 t1 t7 t8 h Q).mp H)
noncomputable def X64 (t0 t1 : Value) (h : AH) (Q : Res → AH → Prop) : Prop :=
  let t4 : Value := (Value.int .i64 0)
  let t6 : Value := t0
  bq (lenL t6) fun t7 =>
  let t8 : Value := (Value.int .i64 0)
  H64_2 t0 t1 t7 t8 h Q
theorem X64_eq (t0 t1 : Value) (h : AH) (Q : Res → AH → Prop) : X64 t0 t1 h Q = wpC Try.prog L64 code64 (argA [t0, t1] Try.f64.ntmps) h (retK Try.prog res64 Q) := by kernel_rfl
theorem X64_body : Try.f64.body = some code64 := by kernel_rfl
theorem X64_ok {t0 t1 : Value} {h : AH} {Q : Res → AH → Prop} (H : X64 t0 t1 h Q) : HC Try.prog 64 [t0, t1].toArray h Q := HC.body Try.func64 X64_body ((X64_eq t0 t1 h Q).mp H)

-- 65 mahout/where.valid
noncomputable def code65 : Code := match Try.f65.body with | some c => c | none => .skip
noncomputable def res65 : List ResultVar := Try.f65.results.toList
def L65 : Nat → Option (List Nat) := fun r => none
noncomputable def X65 (t0 : Value) (h : AH) (Q : Res → AH → Prop) : Prop :=
  let t2 : Value := (Value.bool false)
  let t3 : Value := t0
  (if [t3].all (plainN 12) then bq (flatV Try.prog (Builtin.real_ #[36] 37 [t3].toArray)) fun t4 => 
  HC Try.prog 84 (([] : List Value) ++ [t4] ++ ([] : List Value)).toArray h (resK (fun t5 h => 
  let t6 : Value := t5
  guardQ t6 true h (fun k => k t0 h) fun t7 h =>
  guardQ t6 true h (fun k => (if [t7].all (plainN 12) then bq (flatV Try.prog (Builtin.imag_ #[36] 37 [t7].toArray)) fun v => k v h else False)) fun t8 h =>
  guardQ t6 true h (fun k => HC Try.prog 84 (([] : List Value) ++ [t8] ++ ([] : List Value)).toArray h (resK k (fun v h => Q (.pan v) h))) fun t9 h =>
  bq (pickV t6 t9 (Value.bool false)) fun t10 =>
  let t2 : Value := t10
  Q (.ret t2) h) (fun v h => Q (.pan v) h)) else False)
theorem X65_eq (t0 : Value) (h : AH) (Q : Res → AH → Prop) : X65 t0 h Q = wpC Try.prog L65 code65 (argA [t0] Try.f65.ntmps) h (retK Try.prog res65 Q) := by kernel_rfl
theorem X65_body : Try.f65.body = some code65 := by kernel_rfl
theorem X65_ok {t0 : Value} {h : AH} {Q : Res → AH → Prop} (H : X65 t0 h Q) : HC Try.prog 65 [t0].toArray h Q := HC.body Try.func65 X65_body ((X65_eq t0 h Q).mp H)

-- 66 mahout/where.conj
noncomputable def code66 : Code := match Try.f66.body with | some c => c | none => .skip
noncomputable def res66 : List ResultVar := Try.f66.results.toList
def L66 : Nat → Option (List Nat) := fun r => none
noncomputable def X66 (t0 : Value) (h : AH) (Q : Res → AH → Prop) : Prop :=
  let t2 : Value := (Value.complex .f64 0 0)
  let t3 : Value := t0
  (if [t3].all (plainN 12) then bq (flatV Try.prog (Builtin.real_ #[36] 37 [t3].toArray)) fun t4 => 
  let t5 : Value := t0
  (if [t5].all (plainN 12) then bq (flatV Try.prog (Builtin.imag_ #[36] 37 [t5].toArray)) fun t6 => 
  bq (unV Try.prog .neg t6) fun t7 =>
  (if [t4, t7].all (plainN 12) then bq (flatV Try.prog (Builtin.complex_ #[37, 37] 36 [t4, t7].toArray)) fun t8 => 
  let t2 : Value := t8
  Q (.ret t2) h else False) else False) else False)
theorem X66_eq (t0 : Value) (h : AH) (Q : Res → AH → Prop) : X66 t0 h Q = wpC Try.prog L66 code66 (argA [t0] Try.f66.ntmps) h (retK Try.prog res66 Q) := by kernel_rfl
theorem X66_body : Try.f66.body = some code66 := by kernel_rfl
theorem X66_ok {t0 : Value} {h : AH} {Q : Res → AH → Prop} (H : X66 t0 h Q) : HC Try.prog 66 [t0].toArray h Q := HC.body Try.func66 X66_body ((X66_eq t0 h Q).mp H)

-- 84 mahout/where.whole
noncomputable def code84 : Code := match Try.f84.body with | some c => c | none => .skip
noncomputable def res84 : List ResultVar := Try.f84.results.toList
def L84 : Nat → Option (List Nat) := fun r => none
noncomputable def X84 (t0 : Value) (h : AH) (Q : Res → AH → Prop) : Prop :=
  let t2 : Value := (Value.bool false)
  let t3 : Value := t0
  bq (binV Try.prog .geq 37 (.tmp 3) (.const (Value.float .f64 13875379345695965184)) t3 (Value.float .f64 13875379345695965184) h) fun t4 =>
  let t5 : Value := t4
  guardQ t5 true h (fun k => k t0 h) fun t6 h =>
  guardQ t5 true h (fun k => bq (binV Try.prog .leq 37 (.tmp 6) (.const (Value.float .f64 4652007308841189376)) t6 (Value.float .f64 4652007308841189376) h) fun v => k v h) fun t7 h =>
  bq (pickV t5 t7 (Value.bool false)) fun t8 =>
  let t9 : Value := t8
  guardQ t9 true h (fun k => k t0 h) fun t10 h =>
  guardQ t9 true h (fun k => k t0 h) fun t11 h =>
  guardQ t9 true h (fun k => bq (convV Try.prog 37 3 t11 h) fun r => k r.1 r.2) fun t12 h =>
  guardQ t9 true h (fun k => bq (convV Try.prog 3 37 t12 h) fun r => k r.1 r.2) fun t13 h =>
  guardQ t9 true h (fun k => bq (binV Try.prog .eql 37 (.tmp 10) (.tmp 13) t10 t13 h) fun v => k v h) fun t14 h =>
  bq (pickV t9 t14 (Value.bool false)) fun t15 =>
  let t2 : Value := t15
  Q (.ret t2) h
theorem X84_eq (t0 : Value) (h : AH) (Q : Res → AH → Prop) : X84 t0 h Q = wpC Try.prog L84 code84 (argA [t0] Try.f84.ntmps) h (retK Try.prog res84 Q) := by kernel_rfl
theorem X84_body : Try.f84.body = some code84 := by kernel_rfl
theorem X84_ok {t0 : Value} {h : AH} {Q : Res → AH → Prop} (H : X84 t0 h Q) : HC Try.prog 84 [t0].toArray h Q := HC.body Try.func84 X84_body ((X84_eq t0 h Q).mp H)

-- 62 mahout/where.Near$1
noncomputable def code62 : Code := match Try.f62.body with | some c => c | none => .skip
noncomputable def res62 : List ResultVar := Try.f62.results.toList
def L62 : Nat → Option (List Nat) := fun r => none
noncomputable def X62 (t0 t1 t2 : Value) (h : AH) (Q : Res → AH → Prop) : Prop :=
  let t5 : Value := (Value.int .i64 0)
  bq (ld1 h t2) fun t6 =>
  let t7 : Value := t0
  bq (ia 1 t6 t7) fun t8 =>
  bq (ld1 h t8) fun t9 =>
  bq (ld1 h t2) fun t10 =>
  let t11 : Value := t1
  bq (ia 1 t10 t11) fun t12 =>
  bq (ld1 h t12) fun t13 =>
  exP Try.prog 63 (([] : List Value) ++ [t9, t13] ++ ([] : List Value)).toArray h (fun t14 h => 
  let t5 : Value := t14
  Q (.ret t5) h)
theorem X62_eq (t0 t1 t2 : Value) (h : AH) (Q : Res → AH → Prop) : X62 t0 t1 t2 h Q = wpC Try.prog L62 code62 (argA [t0, t1, t2] Try.f62.ntmps) h (retK Try.prog res62 Q) := by kernel_rfl
theorem X62_body : Try.f62.body = some code62 := by kernel_rfl
theorem X62_ok {t0 t1 t2 : Value} {h : AH} {Q : Res → AH → Prop} (H : X62 t0 t1 t2 h Q) : HC Try.prog 62 [t0, t1, t2].toArray h Q := HC.body Try.func62 X62_body ((X62_eq t0 t1 t2 h Q).mp H)

-- 63 cmp.Compare[uint]
noncomputable def code63 : Code := match Try.f63.body with | some c => c | none => .skip
noncomputable def res63 : List ResultVar := Try.f63.results.toList
def L63 : Nat → Option (List Nat) := fun r => none
noncomputable def X63 (t0 t1 : Value) (h : AH) (Q : Res → AH → Prop) : Prop :=
  let t4 : Value := (Value.int .i64 0)
  let t7 : Value := t0
  HC Try.prog 83 (([] : List Value) ++ [t7] ++ ([] : List Value)).toArray h (resK (fun t8 h => 
  let t5 : Value := t8
  let t9 : Value := t1
  HC Try.prog 83 (([] : List Value) ++ [t9] ++ ([] : List Value)).toArray h (resK (fun t10 h => 
  let t6 : Value := t10
  let t11 : Value := t5
  condP (some t11)
  (let t12 : Value := t6
  condP (some t12)
  (let t4 : Value := (Value.int .i64 0)
  Q (.ret t4) h)
  (let t4 : Value := (Value.int .i64 (-1))
  Q (.ret t4) h))
  (let t13 : Value := t6
  condP (some t13)
  (let t4 : Value := (Value.int .i64 1)
  Q (.ret t4) h)
  (let t14 : Value := t0
  let t15 : Value := t1
  bq (binV Try.prog .lss 120 (.tmp 14) (.tmp 15) t14 t15 h) fun t16 =>
  condP (some t16)
  (let t4 : Value := (Value.int .i64 (-1))
  Q (.ret t4) h)
  (let t17 : Value := t0
  let t18 : Value := t1
  bq (binV Try.prog .gtr 120 (.tmp 17) (.tmp 18) t17 t18 h) fun t19 =>
  condP (some t19)
  (let t4 : Value := (Value.int .i64 1)
  Q (.ret t4) h)
  (let t4 : Value := (Value.int .i64 0)
  Q (.ret t4) h))))) (fun v h => Q (.pan v) h))) (fun v h => Q (.pan v) h))
theorem X63_eq (t0 t1 : Value) (h : AH) (Q : Res → AH → Prop) : X63 t0 t1 h Q = wpC Try.prog L63 code63 (argA [t0, t1] Try.f63.ntmps) h (retK Try.prog res63 Q) := by kernel_rfl
theorem X63_body : Try.f63.body = some code63 := by kernel_rfl
theorem X63_ok {t0 t1 : Value} {h : AH} {Q : Res → AH → Prop} (H : X63 t0 t1 h Q) : HC Try.prog 63 [t0, t1].toArray h Q := HC.body Try.func63 X63_body ((X63_eq t0 t1 h Q).mp H)

-- 83 cmp.isNaN[uint]
noncomputable def code83 : Code := match Try.f83.body with | some c => c | none => .skip
noncomputable def res83 : List ResultVar := Try.f83.results.toList
def L83 : Nat → Option (List Nat) := fun r => none
noncomputable def X83 (t0 : Value) (h : AH) (Q : Res → AH → Prop) : Prop :=
  let t2 : Value := (Value.bool false)
  let t3 : Value := t0
  let t4 : Value := t0
  bq (binV Try.prog .neq 120 (.tmp 3) (.tmp 4) t3 t4 h) fun t5 =>
  let t2 : Value := t5
  Q (.ret t2) h
theorem X83_eq (t0 : Value) (h : AH) (Q : Res → AH → Prop) : X83 t0 h Q = wpC Try.prog L83 code83 (argA [t0] Try.f83.ntmps) h (retK Try.prog res83 Q) := by kernel_rfl
theorem X83_body : Try.f83.body = some code83 := by kernel_rfl
theorem X83_ok {t0 : Value} {h : AH} {Q : Res → AH → Prop} (H : X83 t0 h Q) : HC Try.prog 83 [t0].toArray h Q := HC.body Try.func83 X83_body ((X83_eq t0 h Q).mp H)
end Go.Proofs.Ythjdohbkadpnjaa.X
