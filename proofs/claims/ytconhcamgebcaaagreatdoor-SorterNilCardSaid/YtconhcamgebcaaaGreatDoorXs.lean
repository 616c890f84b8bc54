/-
  PRINTED BY xgen.py (this session's own): what must hold ahead of functions.
-/
import Derived.Test.YtconhcamgebcaaaGreatDoorAbC
import Derived.Test.YtconhcamgebcaaaGreatDoorProg
import Derived.KernelRfl
namespace Go.Proofs.YtconhcamgebcaaaGreatDoor.X
open Go.Ab
set_option linter.unusedVariables false
set_option maxRecDepth 100000
-- 6 mahout/mahoutlaw20.SorterNil
noncomputable def code6 : Code := match Tryz.f6.body with | some c => c | none => .skip
noncomputable def res6 : List ResultVar := Tryz.f6.results.toList
def L6 : Nat → Option (List Nat) := fun r => if r = 12 then some [9, 10, 11] else none
noncomputable def H6_12 (t9 t10 t11 : Value) (h : AH) (Q : Res → AH → Prop) : Prop := HL Tryz.prog (cAt code6 [.r, .r, .r, .r, .r, .r, .r, .r, .r, .l, .r, .i, .i]) (mkA 56 [(9, t9), (10, t10), (11, t11)]) h (ctxAt Tryz.prog L6 code6 [.r, .r, .r, .r, .r, .r, .r, .r, .r, .l, .r, .i] (retK Tryz.prog res6 Q))
noncomputable def X6_12 (t9 t10 t11 : Value) (h : AH) (Q : Res → AH → Prop) : Prop :=
  let t45 : Value := t11
  let t46 : Value := t10
  bq (binV Tryz.prog .lss 3 (.tmp 45) (.tmp 46) t45 t46 h) fun t47 =>
  condP (some t47)
  (let t50 : Value := t9
  let t51 : Value := t11
  bq (ia 1 t50 t51) fun t52 =>
  bq (ld1 h t52) fun t53 =>
  bq (lenL t53) fun t54 =>
  bq (binV Tryz.prog .neq 3 (.tmp 54) (.const (Value.int .i64 0)) t54 (Value.int .i64 0) h) fun t55 =>
  condP (some t55)
  (let t6 : Value := (Value.bool false)
  Q (.ret t6) h)
  (let t48 : Value := t11
  bq (binV Tryz.prog .add 3 (.tmp 48) (.const (Value.int .i64 1)) t48 (Value.int .i64 1) h) fun t49 =>
  let t11 : Value := t49
  H6_12 t9 t10 t11 h Q))
  (let t6 : Value := (Value.bool true)
  Q (.ret t6) h)
theorem X6_12_eq (t9 t10 t11 : Value) (h : AH) (Q : Res → AH → Prop) : X6_12 t9 t10 t11 h Q = wpC Tryz.prog L6 (cAt code6 [.r, .r, .r, .r, .r, .r, .r, .r, .r, .l, .r, .i, .i]) (mkA 56 [(9, t9), (10, t10), (11, t11)]) h (ctxAt Tryz.prog L6 code6 [.r, .r, .r, .r, .r, .r, .r, .r, .r, .l, .r, .i, .i] (retK Tryz.prog res6 Q)) := by kernel_rfl
theorem X6_12_ok {t9 t10 t11 : Value} {h : AH} {Q : Res → AH → Prop} (H : X6_12 t9 t10 t11 h Q) : H6_12 t9 t10 t11 h Q := HL.step (L := L6) ((X6_12_eq t9 t10 t11 h Q).mp H)
noncomputable def X6 (t0 t1 t2 : Value) (h : AH) (Q : Res → AH → Prop) : Prop :=
  (fun t5 h => 
  let t6 : Value := (Value.bool false)
  HC Tryz.prog 20 (([] : List Value) ++ [] ++ ([] : List Value)).toArray h (resK (fun t12 h => 
  bq (unV Tryz.prog .not t12) fun t13 =>
  condP (some t13)
  (let t6 : Value := (Value.bool false)
  Q (.ret t6) h)
  (let t7 : Value := (Value.pointer none)
  let t14 : Value := t7
  bq (ldN 2 h t5) fun t15 =>
  bq (bs 33 #[(Value.string (ByteArray.mk #[])), (Value.string (ByteArray.mk #[]))] 1 h [(0, 2, t15)]) fun r => (fun t16 h => 
  HC Tryz.prog 21 (([] : List Value) ++ [t14, t16] ++ ([] : List Value)).toArray h (resK (fun t17 h => 
  let t18 : Value := t0
  let t19 : Value := t1
  HC Tryz.prog 22 (([] : List Value) ++ [(Value.pointer none), t18, t19] ++ ([] : List Value)).toArray h (resK (fun t20 h => 
  let t8 : Value := t20
  let t21 : Value := t8
  bq (ldN 2 h t5) fun t22 =>
  bq (bs 33 #[(Value.string (ByteArray.mk #[])), (Value.string (ByteArray.mk #[]))] 1 h [(0, 2, t22)]) fun r => (fun t23 h => 
  HC Tryz.prog 21 (([] : List Value) ++ [t21, t23] ++ ([] : List Value)).toArray h (resK (fun t24 h => 
  let t25 : Value := t8
  HC Tryz.prog 23 (([] : List Value) ++ [t25] ++ ([] : List Value)).toArray h (resK (fun t26 h => 
  let t9 : Value := t26
  let t27 : Value := t0
  (if [t27, (Value.int .i64 1)].all (plainN 12) then bq (flatV Tryz.prog (Builtin.max_ #[3, 3] 3 [t27, (Value.int .i64 1)].toArray)) fun t28 => 
  (if [t28, (Value.int .i64 64)].all (plainN 12) then bq (flatV Tryz.prog (Builtin.min_ #[3, 3] 3 [t28, (Value.int .i64 64)].toArray)) fun t29 => 
  let t10 : Value := t29
  let t30 : Value := t7
  HC Tryz.prog 24 (([] : List Value) ++ [t30] ++ ([] : List Value)).toArray h (resK (fun t31 h => 
  bq (binV Tryz.prog .neq 3 (.tmp 31) (.const (Value.int .i64 0)) t31 (Value.int .i64 0) h) fun t32 =>
  let t33 : Value := t32
  guardQ t33 false h (fun k => k t7 h) fun t34 h =>
  guardQ t33 false h (fun k => HC Tryz.prog 23 (([] : List Value) ++ [t34] ++ ([] : List Value)).toArray h (resK k (fun v h => Q (.pan v) h))) fun t35 h =>
  guardQ t33 false h (fun k => bq (lenL t35) fun v => k v h) fun t36 h =>
  guardQ t33 false h (fun k => bq (binV Tryz.prog .neq 3 (.tmp 36) (.const (Value.int .i64 0)) t36 (Value.int .i64 0) h) fun v => k v h) fun t37 h =>
  bq (pickV t33 (Value.bool true) t37) fun t38 =>
  let t39 : Value := t38
  guardQ t39 false h (fun k => k t9 h) fun t40 h =>
  guardQ t39 false h (fun k => bq (lenL t40) fun v => k v h) fun t41 h =>
  guardQ t39 false h (fun k => k t10 h) fun t42 h =>
  guardQ t39 false h (fun k => bq (binV Tryz.prog .neq 3 (.tmp 41) (.tmp 42) t41 t42 h) fun v => k v h) fun t43 h =>
  bq (pickV t39 (Value.bool true) t43) fun t44 =>
  condP (some t44)
  (let t6 : Value := (Value.bool false)
  Q (.ret t6) h)
  (let t11 : Value := (Value.int .i64 0)
  H6_12 t9 t10 t11 h Q)) (fun v h => Q (.pan v) h)) else False) else False)) (fun v h => Q (.pan v) h))) (fun v h => Q (.pan v) h))) r.1 r.2) (fun v h => Q (.pan v) h))) (fun v h => Q (.pan v) h))) r.1 r.2)) (fun v h => Q (.pan v) h))) (opNew h 33 t2.cells).1 (opNew h 33 t2.cells).2
theorem X6_eq (t0 t1 t2 : Value) (h : AH) (Q : Res → AH → Prop) : X6 t0 t1 t2 h Q = wpC Tryz.prog L6 code6 (argA [t0, t1, t2] Tryz.f6.ntmps) h (retK Tryz.prog res6 Q) := by kernel_rfl
theorem X6_body : Tryz.f6.body = some code6 := by kernel_rfl
theorem X6_ok {t0 t1 t2 : Value} {h : AH} {Q : Res → AH → Prop} (H : X6 t0 t1 t2 h Q) : HC Tryz.prog 6 [t0, t1, t2].toArray h Q := HC.body Tryz.func6 X6_body ((X6_eq t0 t1 t2 h Q).mp H)

-- 22 mahout/sorter.New
noncomputable def code22 : Code := match Tryz.f22.body with | some c => c | none => .skip
noncomputable def res22 : List ResultVar := Tryz.f22.results.toList
def L22 : Nat → Option (List Nat) := fun r => none
noncomputable def X22 (t0 t1 t2 : Value) (h : AH) (Q : Res → AH → Prop) : Prop :=
  let t6 : Value := (Value.pointer none)
  let t7 : Value := t0
  let t8 : Value := t1
  (if [t8, (Value.int .i64 1)].all (plainN 12) then bq (flatV Tryz.prog (Builtin.max_ #[3, 3] 3 [t8, (Value.int .i64 1)].toArray)) fun t9 => 
  (if [t9, (Value.int .i64 64)].all (plainN 12) then bq (flatV Tryz.prog (Builtin.min_ #[3, 3] 3 [t9, (Value.int .i64 64)].toArray)) fun t10 => 
  let t11 : Value := t2
  (if [t11, (Value.int .i64 1)].all (plainN 12) then bq (flatV Tryz.prog (Builtin.max_ #[3, 3] 3 [t11, (Value.int .i64 1)].toArray)) fun t12 => 
  bq (bd #[(Value.pointer none), (Value.int .i64 0), (Value.int .i64 0), (Value.slice none 0 0), (Value.slice none 0 0)] [(0, 1, t7), (1, 1, t10), (2, 1, t12)]) fun t13 =>
  (fun t14 h => 
  let t6 : Value := t14
  Q (.ret t6) h) (opNew h 118 t13.cells).1 (opNew h 118 t13.cells).2 else False) else False) else False)
theorem X22_eq (t0 t1 t2 : Value) (h : AH) (Q : Res → AH → Prop) : X22 t0 t1 t2 h Q = wpC Tryz.prog L22 code22 (argA [t0, t1, t2] Tryz.f22.ntmps) h (retK Tryz.prog res22 Q) := by kernel_rfl
theorem X22_body : Tryz.f22.body = some code22 := by kernel_rfl
theorem X22_ok {t0 t1 t2 : Value} {h : AH} {Q : Res → AH → Prop} (H : X22 t0 t1 t2 h Q) : HC Tryz.prog 22 [t0, t1, t2].toArray h Q := HC.body Tryz.func22 X22_body ((X22_eq t0 t1 t2 h Q).mp H)

-- 21 (*mahout/sorter.Sorter).Add
noncomputable def code21 : Code := match Tryz.f21.body with | some c => c | none => .skip
noncomputable def res21 : List ResultVar := Tryz.f21.results.toList
def L21 : Nat → Option (List Nat) := fun r => if r = 2 then some [0, 8, 9, 10] else if r = 8 then some [0, 8, 9, 10] else none
noncomputable def H21_2 (t0 t8 t9 t10 : Value) (h : AH) (Q : Res → AH → Prop) : Prop := HL Tryz.prog (cAt code21 [.r, .r, .i, .i]) (mkA 57 [(0, t0), (8, t8), (9, t9), (10, t10)]) h (ctxAt Tryz.prog L21 code21 [.r, .r, .i] (retK Tryz.prog res21 Q))
noncomputable def J21_8 (t0 t8 t9 t10 : Value) (h : AH) (Q : Res → AH → Prop) : Prop := wpC Tryz.prog L21 (cAt code21 [.r, .r, .i, .i, .r, .r, .r]) (mkA 57 [(0, t0), (8, t8), (9, t9), (10, t10)]) h (ctxAt Tryz.prog L21 code21 [.r, .r, .i, .i, .r, .r, .r] (retK Tryz.prog res21 Q))
noncomputable def X21_8 (t0 t8 t9 t10 : Value) (h : AH) (Q : Res → AH → Prop) : Prop :=
  bq (binV Tryz.prog .add 3 (.tmp 10) (.const (Value.int .i64 1)) t10 (Value.int .i64 1) h) fun t56 =>
  let t10 : Value := t56
  H21_2 t0 t8 t9 t10 h Q
theorem X21_8_eq (t0 t8 t9 t10 : Value) (h : AH) (Q : Res → AH → Prop) : X21_8 t0 t8 t9 t10 h Q = wpC Tryz.prog L21 (cAt code21 [.r, .r, .i, .i, .r, .r, .r]) (mkA 57 [(0, t0), (8, t8), (9, t9), (10, t10)]) h (ctxAt Tryz.prog L21 code21 [.r, .r, .i, .i, .r, .r, .r] (retK Tryz.prog res21 Q)) := by kernel_rfl
theorem X21_8_ok {t0 t8 t9 t10 : Value} {h : AH} {Q : Res → AH → Prop} (H : X21_8 t0 t8 t9 t10 h Q) : J21_8 t0 t8 t9 t10 h Q := (X21_8_eq t0 t8 t9 t10 h Q).mp H
noncomputable def X21_2 (t0 t8 t9 t10 : Value) (h : AH) (Q : Res → AH → Prop) : Prop :=
  bq (binV Tryz.prog .lss 3 (.tmp 10) (.tmp 9) t10 t9 h) fun t11 =>
  condP (some t11)
  (bq (ia 2 t8 t10) fun t12 =>
  bq (ldN 2 h t12) fun t13 =>
  (fun t5 h => 
  bq (stN 2 h t5 t13) fun h => (fun _ h => 
  (let t14 : Value := t0
  (let t15 : Value := t0
  bq (nilV Tryz.prog t15) fun t16 => (bq (fa 3 1 t16) fun t17 => (bq (ld1 h t17) fun t18 => (bq (ldN 2 h t5) fun t19 => (bq (bs 33 #[(Value.string (ByteArray.mk #[])), (Value.string (ByteArray.mk #[]))] 1 h [(0, 2, t19)]) fun r => (fun t20 h4_6 => (bq (apT 33 2 32 (some (Value.agg #[(Value.string (ByteArray.mk #[])), (Value.string (ByteArray.mk #[]))])) h4_6 t18 t20) fun r => (fun t21 h4_7 => (bq (nilV Tryz.prog t14) fun t22 => (bq (fa 3 1 t22) fun t23 => (bq (stN 1 h4_7 t23 t21) fun h4_10 => (let v4_10 : Value := undef
  ((bq (ld1 h4_6 t17) fun v => (v = t18 ∧ h4_6 = h4_6)) ∧
  True) ∧
  (fun h => 
  let t24 : Value := t0
  bq (nilV Tryz.prog t24) fun t25 =>
  bq (fa 3 1 t25) fun t26 =>
  bq (ld1 h t26) fun t27 =>
  bq (lenL t27) fun t28 =>
  let t29 : Value := t0
  bq (nilV Tryz.prog t29) fun t30 =>
  bq (fa 2 1 t30) fun t31 =>
  bq (ld1 h t31) fun t32 =>
  bq (binV Tryz.prog .geq 3 (.tmp 28) (.tmp 32) t28 t32 h) fun t33 =>
  condP (some t33)
  ((let t34 : Value := t0
  (let t35 : Value := t0
  bq (nilV Tryz.prog t35) fun t36 => (bq (fa 4 1 t36) fun t37 => (bq (ld1 h t37) fun t38 => ((let t39 : Value := t0
  bq (nilV Tryz.prog t39) fun t40 => (bq (fa 3 1 t40) fun t41 => (bq (ld1 h t41) fun t42 => (exP Tryz.prog 64 (([] : List Value) ++ [t42] ++ ([] : List Value)).toArray h fun t43 g => g = h ∧ (bq (bs 29 #[(Value.slice none 0 0)] 1 h [(0, 1, t43)]) fun r => (fun t44 h6_10 => (bq (apT 29 1 24 (some (Value.slice none 0 0)) h6_10 t38 t44) fun r => (fun t45 h6_11 => (bq (nilV Tryz.prog t34) fun t46 => (bq (fa 4 1 t46) fun t47 => (bq (stN 1 h6_11 t47 t45) fun h6_14 => (let v6_14 : Value := undef
  ((bq (ld1 h6_10 t37) fun v => (v = t38 ∧ h6_10 = h6_10)) ∧
  True) ∧
  (fun h => 
  let t48 : Value := t0
  let t49 : Value := t0
  bq (nilV Tryz.prog t49) fun t50 =>
  bq (fa 3 1 t50) fun t51 =>
  bq (ld1 h t51) fun t52 =>
  bq (sliceV Tryz.prog h 29 t52 none (some (Value.int .i64 0))) fun t53 =>
  bq (nilV Tryz.prog t48) fun t54 =>
  bq (fa 3 1 t54) fun t55 =>
  bq (stN 1 h t55 t53) fun h => (fun _ h => 
  J21_8 t0 t8 t9 t10 h Q) undef h) h6_14))))) r.1 r.2)) r.1 r.2)))))))))))
  (J21_8 t0 t8 t9 t10 h Q)) h4_10))))) r.1 r.2)) r.1 r.2))))))) undef h) (opNew h 33 #[(Value.string (ByteArray.mk #[])), (Value.string (ByteArray.mk #[]))]).1 (opNew h 33 #[(Value.string (ByteArray.mk #[])), (Value.string (ByteArray.mk #[]))]).2)
  (Q (.ret (.tuple [].toArray)) h)
theorem X21_2_eq (t0 t8 t9 t10 : Value) (h : AH) (Q : Res → AH → Prop) : X21_2 t0 t8 t9 t10 h Q = wpC Tryz.prog L21 (cAt code21 [.r, .r, .i, .i]) (mkA 57 [(0, t0), (8, t8), (9, t9), (10, t10)]) h (ctxAt Tryz.prog L21 code21 [.r, .r, .i, .i] (retK Tryz.prog res21 Q)) := by kernel_rfl
theorem X21_2_ok {t0 t8 t9 t10 : Value} {h : AH} {Q : Res → AH → Prop} (H : X21_2 t0 t8 t9 t10 h Q) : H21_2 t0 t8 t9 t10 h Q := HL.step (L := L21) ((X21_2_eq t0 t8 t9 t10 h Q).mp H)
noncomputable def X21 (t0 t1 : Value) (h : AH) (Q : Res → AH → Prop) : Prop :=
  let t6 : Value := t0
  bq (binV Tryz.prog .eql 46 (.tmp 6) (.const (Value.pointer none)) t6 (Value.pointer none) h) fun t7 =>
  condP (some t7)
  (Q (.ret (.tuple [].toArray)) h)
  (let t8 : Value := t1
  bq (lenL t8) fun t9 =>
  let t10 : Value := (Value.int .i64 0)
  H21_2 t0 t8 t9 t10 h Q)
theorem X21_eq (t0 t1 : Value) (h : AH) (Q : Res → AH → Prop) : X21 t0 t1 h Q = wpC Tryz.prog L21 code21 (argA [t0, t1] Tryz.f21.ntmps) h (retK Tryz.prog res21 Q) := by kernel_rfl
theorem X21_body : Tryz.f21.body = some code21 := by kernel_rfl
theorem X21_ok {t0 t1 : Value} {h : AH} {Q : Res → AH → Prop} (H : X21 t0 t1 h Q) : HC Tryz.prog 21 [t0, t1].toArray h Q := HC.body Tryz.func21 X21_body ((X21_eq t0 t1 h Q).mp H)
end Go.Proofs.YtconhcamgebcaaaGreatDoor.X
