/-
  PRINTED BY xgen.py (this session's own): what must hold ahead of functions.
-/
import Derived.Test.YthjdohbkadpnjaaAbC
import Derived.Test.YthjdohbkadpnjaaProg
import Derived.KernelRfl
namespace Go.Proofs.Ythjdohbkadpnjaa.X
open Go.Ab
set_option linter.unusedVariables false
set_option maxRecDepth 100000
-- 61 slices.SortStableFunc[[]int,int]
noncomputable def code61 : Code := match Try.f61.body with | some c => c | none => .skip
noncomputable def res61 : List ResultVar := Try.f61.results.toList
def L61 : Nat → Option (List Nat) := fun r => none
noncomputable def X61 (t0 t1 : Value) (h : AH) (Q : Res → AH → Prop) : Prop :=
  let t4 : Value := t0
  let t5 : Value := t0
  bq (lenL t5) fun t6 =>
  let t7 : Value := t1
  HC Try.prog 82 (([] : List Value) ++ [t4, t6, t7] ++ ([] : List Value)).toArray h (resK (fun t8 h => 
  Q (.ret (.tuple [].toArray)) h) (fun v h => Q (.pan v) h))
theorem X61_eq (t0 t1 : Value) (h : AH) (Q : Res → AH → Prop) : X61 t0 t1 h Q = wpC Try.prog L61 code61 (argA [t0, t1] Try.f61.ntmps) h (retK Try.prog res61 Q) := by kernel_rfl
theorem X61_body : Try.f61.body = some code61 := by kernel_rfl
theorem X61_ok {t0 t1 : Value} {h : AH} {Q : Res → AH → Prop} (H : X61 t0 t1 h Q) : HC Try.prog 61 [t0, t1].toArray h Q := HC.body Try.func61 X61_body ((X61_eq t0 t1 h Q).mp H)

-- 82 slices.stableCmpFunc[int]
noncomputable def code82 : Code := match Try.f82.body with | some c => c | none => .skip
noncomputable def res82 : List ResultVar := Try.f82.results.toList
def L82 : Nat → Option (List Nat) := fun r => if r = 2 then some [0, 1, 2, 6, 7, 8] else if r = 7 then some [0, 1, 2, 6] else if r = 9 then some [0, 1, 2, 6, 7, 8] else if r = 16 then some [0, 1, 2, 6] else none
noncomputable def H82_2 (t0 t1 t2 t6 t7 t8 : Value) (h : AH) (Q : Res → AH → Prop) : Prop := HL Try.prog (cAt code82 [.r, .r, .l, .i, .i]) (mkA 63 [(0, t0), (1, t1), (2, t2), (6, t6), (7, t7), (8, t8)]) h (ctxAt Try.prog L82 code82 [.r, .r, .l, .i] (retK Try.prog res82 Q))
noncomputable def H82_7 (t0 t1 t2 t6 : Value) (h : AH) (Q : Res → AH → Prop) : Prop := HL Try.prog (cAt code82 [.r, .r, .r, .r, .i, .i]) (mkA 63 [(0, t0), (1, t1), (2, t2), (6, t6)]) h (ctxAt Try.prog L82 code82 [.r, .r, .r, .r, .i] (retK Try.prog res82 Q))
noncomputable def H82_9 (t0 t1 t2 t6 t7 t8 : Value) (h : AH) (Q : Res → AH → Prop) : Prop := HL Try.prog (cAt code82 [.r, .r, .r, .r, .i, .i, .r, .i, .r, .l, .i, .i]) (mkA 63 [(0, t0), (1, t1), (2, t2), (6, t6), (7, t7), (8, t8)]) h (ctxAt Try.prog L82 code82 [.r, .r, .r, .r, .i, .i, .r, .i, .r, .l, .i] (retK Try.prog res82 Q))
noncomputable def J82_16 (t0 t1 t2 t6 : Value) (h : AH) (Q : Res → AH → Prop) : Prop := wpC Try.prog L82 (cAt code82 [.r, .r, .r, .r, .i, .i, .r, .i, .r, .r, .r]) (mkA 63 [(0, t0), (1, t1), (2, t2), (6, t6)]) h (ctxAt Try.prog L82 code82 [.r, .r, .r, .r, .i, .i, .r, .i, .r, .r, .r] (retK Try.prog res82 Q))
noncomputable def X82_16 (t0 t1 t2 t6 : Value) (h : AH) (Q : Res → AH → Prop) : Prop :=
  let t61 : Value := t6
  bq (binV Try.prog .mul 3 (.tmp 61) (.const (Value.int .i64 2)) t61 (Value.int .i64 2) h) fun t62 =>
  let t6 : Value := t62
  H82_7 t0 t1 t2 t6 h Q
theorem X82_16_eq (t0 t1 t2 t6 : Value) (h : AH) (Q : Res → AH → Prop) : X82_16 t0 t1 t2 t6 h Q = wpC Try.prog L82 (cAt code82 [.r, .r, .r, .r, .i, .i, .r, .i, .r, .r, .r]) (mkA 63 [(0, t0), (1, t1), (2, t2), (6, t6)]) h (ctxAt Try.prog L82 code82 [.r, .r, .r, .r, .i, .i, .r, .i, .r, .r, .r] (retK Try.prog res82 Q)) := by kernel_rfl
theorem X82_16_ok {t0 t1 t2 t6 : Value} {h : AH} {Q : Res → AH → Prop} (H : X82_16 t0 t1 t2 t6 h Q) : J82_16 t0 t1 t2 t6 h Q := (X82_16_eq t0 t1 t2 t6 h Q).mp H
noncomputable def X82_9 (t0 t1 t2 t6 t7 t8 : Value) (h : AH) (Q : Res → AH → Prop) : Prop :=
  let t33 : Value := t8
  let t34 : Value := t1
  bq (binV Try.prog .leq 3 (.tmp 33) (.tmp 34) t33 t34 h) fun t35 =>
  condP (some t35)
  (let t36 : Value := t0
  let t37 : Value := t7
  let t38 : Value := t7
  let t39 : Value := t6
  bq (binV Try.prog .add 3 (.tmp 38) (.tmp 39) t38 t39 h) fun t40 =>
  let t41 : Value := t8
  let t42 : Value := t2
  HC Try.prog 99 (([] : List Value) ++ [t36, t37, t40, t41, t42] ++ ([] : List Value)).toArray h (resK (fun t43 h => 
  let t44 : Value := t8
  let t7 : Value := t44
  let t45 : Value := t8
  let t46 : Value := t6
  bq (binV Try.prog .mul 3 (.const (Value.int .i64 2)) (.tmp 46) (Value.int .i64 2) t46 h) fun t47 =>
  bq (binV Try.prog .add 3 (.tmp 45) (.tmp 47) t45 t47 h) fun t48 =>
  let t8 : Value := t48
  H82_9 t0 t1 t2 t6 t7 t8 h Q) (fun v h => Q (.pan v) h)))
  (let t49 : Value := t7
  let t50 : Value := t6
  bq (binV Try.prog .add 3 (.tmp 49) (.tmp 50) t49 t50 h) fun t51 =>
  let t9 : Value := t51
  let t52 : Value := t9
  let t53 : Value := t1
  bq (binV Try.prog .lss 3 (.tmp 52) (.tmp 53) t52 t53 h) fun t54 =>
  condP (some t54)
  (let t55 : Value := t0
  let t56 : Value := t7
  let t57 : Value := t9
  let t58 : Value := t1
  let t59 : Value := t2
  HC Try.prog 99 (([] : List Value) ++ [t55, t56, t57, t58, t59] ++ ([] : List Value)).toArray h (resK (fun t60 h => 
  J82_16 t0 t1 t2 t6 h Q) (fun v h => Q (.pan v) h)))
  (J82_16 t0 t1 t2 t6 h Q))
theorem X82_9_eq (t0 t1 t2 t6 t7 t8 : Value) (h : AH) (Q : Res → AH → Prop) : X82_9 t0 t1 t2 t6 t7 t8 h Q = wpC Try.prog L82 (cAt code82 [.r, .r, .r, .r, .i, .i, .r, .i, .r, .l, .i, .i]) (mkA 63 [(0, t0), (1, t1), (2, t2), (6, t6), (7, t7), (8, t8)]) h (ctxAt Try.prog L82 code82 [.r, .r, .r, .r, .i, .i, .r, .i, .r, .l, .i, .i] (retK Try.prog res82 Q)) := by kernel_rfl
theorem X82_9_ok {t0 t1 t2 t6 t7 t8 : Value} {h : AH} {Q : Res → AH → Prop} (H : X82_9 t0 t1 t2 t6 t7 t8 h Q) : H82_9 t0 t1 t2 t6 t7 t8 h Q := HL.step (L := L82) ((X82_9_eq t0 t1 t2 t6 t7 t8 h Q).mp H)
noncomputable def X82_7 (t0 t1 t2 t6 : Value) (h : AH) (Q : Res → AH → Prop) : Prop :=
  let t28 : Value := t6
  let t29 : Value := t1
  bq (binV Try.prog .lss 3 (.tmp 28) (.tmp 29) t28 t29 h) fun t30 =>
  condP (some t30)
  (let t31 : Value := t6
  bq (binV Try.prog .mul 3 (.const (Value.int .i64 2)) (.tmp 31) (Value.int .i64 2) t31 h) fun t32 =>
  let t7 : Value := (Value.int .i64 0)
  let t8 : Value := t32
  H82_9 t0 t1 t2 t6 t7 t8 h Q)
  (Q (.ret (.tuple [].toArray)) h)
theorem X82_7_eq (t0 t1 t2 t6 : Value) (h : AH) (Q : Res → AH → Prop) : X82_7 t0 t1 t2 t6 h Q = wpC Try.prog L82 (cAt code82 [.r, .r, .r, .r, .i, .i]) (mkA 63 [(0, t0), (1, t1), (2, t2), (6, t6)]) h (ctxAt Try.prog L82 code82 [.r, .r, .r, .r, .i, .i] (retK Try.prog res82 Q)) := by kernel_rfl
theorem X82_7_ok {t0 t1 t2 t6 : Value} {h : AH} {Q : Res → AH → Prop} (H : X82_7 t0 t1 t2 t6 h Q) : H82_7 t0 t1 t2 t6 h Q := HL.step (L := L82) ((X82_7_eq t0 t1 t2 t6 h Q).mp H)
noncomputable def X82_2 (t0 t1 t2 t6 t7 t8 : Value) (h : AH) (Q : Res → AH → Prop) : Prop :=
  let t11 : Value := t8
  let t12 : Value := t1
  bq (binV Try.prog .leq 3 (.tmp 11) (.tmp 12) t11 t12 h) fun t13 =>
  condP (some t13)
  (let t14 : Value := t0
  let t15 : Value := t7
  let t16 : Value := t8
  let t17 : Value := t2
  HC Try.prog 98 (([] : List Value) ++ [t14, t15, t16, t17] ++ ([] : List Value)).toArray h (resK (fun t18 h => 
  let t19 : Value := t8
  let t7 : Value := t19
  let t20 : Value := t8
  let t21 : Value := t6
  bq (binV Try.prog .add 3 (.tmp 20) (.tmp 21) t20 t21 h) fun t22 =>
  let t8 : Value := t22
  H82_2 t0 t1 t2 t6 t7 t8 h Q) (fun v h => Q (.pan v) h)))
  (let t23 : Value := t0
  let t24 : Value := t7
  let t25 : Value := t1
  let t26 : Value := t2
  HC Try.prog 98 (([] : List Value) ++ [t23, t24, t25, t26] ++ ([] : List Value)).toArray h (resK (fun t27 h => 
  H82_7 t0 t1 t2 t6 h Q) (fun v h => Q (.pan v) h)))
theorem X82_2_eq (t0 t1 t2 t6 t7 t8 : Value) (h : AH) (Q : Res → AH → Prop) : X82_2 t0 t1 t2 t6 t7 t8 h Q = wpC Try.prog L82 (cAt code82 [.r, .r, .l, .i, .i]) (mkA 63 [(0, t0), (1, t1), (2, t2), (6, t6), (7, t7), (8, t8)]) h (ctxAt Try.prog L82 code82 [.r, .r, .l, .i, .i] (retK Try.prog res82 Q)) := by kernel_rfl
theorem X82_2_ok {t0 t1 t2 t6 t7 t8 : Value} {h : AH} {Q : Res → AH → Prop} (H : X82_2 t0 t1 t2 t6 t7 t8 h Q) : H82_2 t0 t1 t2 t6 t7 t8 h Q := HL.step (L := L82) ((X82_2_eq t0 t1 t2 t6 t7 t8 h Q).mp H)
noncomputable def X82 (t0 t1 t2 : Value) (h : AH) (Q : Res → AH → Prop) : Prop :=
  let t6 : Value := (Value.int .i64 20)
  let t10 : Value := t6
  let t7 : Value := (Value.int .i64 0)
  let t8 : Value := t10
  H82_2 t0 t1 t2 t6 t7 t8 h Q
theorem X82_eq (t0 t1 t2 : Value) (h : AH) (Q : Res → AH → Prop) : X82 t0 t1 t2 h Q = wpC Try.prog L82 code82 (argA [t0, t1, t2] Try.f82.ntmps) h (retK Try.prog res82 Q) := by kernel_rfl
theorem X82_body : Try.f82.body = some code82 := by kernel_rfl
theorem X82_ok {t0 t1 t2 : Value} {h : AH} {Q : Res → AH → Prop} (H : X82 t0 t1 t2 h Q) : HC Try.prog 82 [t0, t1, t2].toArray h Q := HC.body Try.func82 X82_body ((X82_eq t0 t1 t2 h Q).mp H)

-- 98 slices.insertionSortCmpFunc[int]
noncomputable def code98 : Code := match Try.f98.body with | some c => c | none => .skip
noncomputable def res98 : List ResultVar := Try.f98.results.toList
def L98 : Nat → Option (List Nat) := fun r => if r = 1 then some [0, 1, 2, 3, 8] else if r = 4 then some [0, 1, 2, 3, 8, 9] else none
noncomputable def H98_1 (t0 t1 t2 t3 t8 : Value) (h : AH) (Q : Res → AH → Prop) : Prop := HL Try.prog (cAt code98 [.r, .i, .i]) (mkA 53 [(0, t0), (1, t1), (2, t2), (3, t3), (8, t8)]) h (ctxAt Try.prog L98 code98 [.r, .i] (retK Try.prog res98 Q))
noncomputable def H98_4 (t0 t1 t2 t3 t8 t9 : Value) (h : AH) (Q : Res → AH → Prop) : Prop := HL Try.prog (cAt code98 [.r, .i, .i, .r, .l, .i, .r, .i, .i]) (mkA 53 [(0, t0), (1, t1), (2, t2), (3, t3), (8, t8), (9, t9)]) h (ctxAt Try.prog L98 code98 [.r, .i, .i, .r, .l, .i, .r, .i] (retK Try.prog res98 Q))
noncomputable def X98_4 (t0 t1 t2 t3 t8 t9 : Value) (h : AH) (Q : Res → AH → Prop) : Prop :=
  let t18 : Value := t9
  let t19 : Value := t1
  bq (binV Try.prog .gtr 3 (.tmp 18) (.tmp 19) t18 t19 h) fun t20 =>
  let t21 : Value := t20
  guardQ t21 true h (fun k => k t3 h) fun t22 h =>
  guardQ t21 true h (fun k => k t0 h) fun t23 h =>
  guardQ t21 true h (fun k => k t9 h) fun t24 h =>
  guardQ t21 true h (fun k => bq (ia 1 t23 t24) fun v => k v h) fun t25 h =>
  guardQ t21 true h (fun k => bq (ld1 h t25) fun v => k v h) fun t26 h =>
  guardQ t21 true h (fun k => k t0 h) fun t27 h =>
  guardQ t21 true h (fun k => k t9 h) fun t28 h =>
  guardQ t21 true h (fun k => bq (binV Try.prog .sub 3 (.tmp 28) (.const (Value.int .i64 1)) t28 (Value.int .i64 1) h) fun v => k v h) fun t29 h =>
  guardQ t21 true h (fun k => bq (ia 1 t27 t29) fun v => k v h) fun t30 h =>
  guardQ t21 true h (fun k => bq (ld1 h t30) fun v => k v h) fun t31 h =>
  guardQ t21 true h (fun k => callX Try.prog t22 [t26, t31] h k) fun t32 h =>
  guardQ t21 true h (fun k => bq (binV Try.prog .lss 3 (.tmp 32) (.const (Value.int .i64 0)) t32 (Value.int .i64 0) h) fun v => k v h) fun t33 h =>
  bq (pickV t21 t33 (Value.bool false)) fun t34 =>
  condP (some t34)
  ((let t37 : Value := t0
  (let t38 : Value := t9
  (let t39 : Value := t0
  (let t40 : Value := t9
  bq (binV Try.prog .sub 3 (.tmp 40) (.const (Value.int .i64 1)) t40 (Value.int .i64 1) h) fun t41 => ((let t42 : Value := t0
  (let t43 : Value := t9
  bq (binV Try.prog .sub 3 (.tmp 43) (.const (Value.int .i64 1)) t43 (Value.int .i64 1) h) fun t44 => (bq (ia 1 t42 t44) fun t45 => (bq (ld1 h t45) fun t46 => ((let t47 : Value := t0
  (let t48 : Value := t9
  bq (ia 1 t47 t48) fun t49 => (bq (ld1 h t49) fun t50 => (bq (ia 1 t37 t38) fun t51 => (bq (stN 1 h t51 t46) fun h6_15 => (let v6_15 : Value := undef
  bq (ia 1 t39 t41) fun t52 => (bq (stN 1 h6_15 t52 t50) fun h6_17 => (let v6_17 : Value := undef
  ((bq (binV Try.prog .sub 3 (.tmp 40) (.const (Value.int .i64 1)) t40 (Value.int .i64 1) h6_15) fun v => (v = t41 ∧ h6_15 = h6_15)) ∧
  True) ∧
  (fun h => 
  let t35 : Value := t9
  bq (binV Try.prog .sub 3 (.tmp 35) (.const (Value.int .i64 1)) t35 (Value.int .i64 1) h) fun t36 =>
  let t9 : Value := t36
  H98_4 t0 t1 t2 t3 t8 t9 h Q) h6_17)))))))))))))))))))
  (let t15 : Value := t8
  bq (binV Try.prog .add 3 (.tmp 15) (.const (Value.int .i64 1)) t15 (Value.int .i64 1) h) fun t16 =>
  let t8 : Value := t16
  H98_1 t0 t1 t2 t3 t8 h Q)
theorem X98_4_eq (t0 t1 t2 t3 t8 t9 : Value) (h : AH) (Q : Res → AH → Prop) : X98_4 t0 t1 t2 t3 t8 t9 h Q = wpC Try.prog L98 (cAt code98 [.r, .i, .i, .r, .l, .i, .r, .i, .i]) (mkA 53 [(0, t0), (1, t1), (2, t2), (3, t3), (8, t8), (9, t9)]) h (ctxAt Try.prog L98 code98 [.r, .i, .i, .r, .l, .i, .r, .i, .i] (retK Try.prog res98 Q)) := by kernel_rfl
theorem X98_4_ok {t0 t1 t2 t3 t8 t9 : Value} {h : AH} {Q : Res → AH → Prop} (H : X98_4 t0 t1 t2 t3 t8 t9 h Q) : H98_4 t0 t1 t2 t3 t8 t9 h Q := HL.step (L := L98) ((X98_4_eq t0 t1 t2 t3 t8 t9 h Q).mp H)
noncomputable def X98_1 (t0 t1 t2 t3 t8 : Value) (h : AH) (Q : Res → AH → Prop) : Prop :=
  let t12 : Value := t8
  let t13 : Value := t2
  bq (binV Try.prog .lss 3 (.tmp 12) (.tmp 13) t12 t13 h) fun t14 =>
  condP (some t14)
  (let t17 : Value := t8
  let t9 : Value := t17
  H98_4 t0 t1 t2 t3 t8 t9 h Q)
  (Q (.ret (.tuple [].toArray)) h)
theorem X98_1_eq (t0 t1 t2 t3 t8 : Value) (h : AH) (Q : Res → AH → Prop) : X98_1 t0 t1 t2 t3 t8 h Q = wpC Try.prog L98 (cAt code98 [.r, .i, .i]) (mkA 53 [(0, t0), (1, t1), (2, t2), (3, t3), (8, t8)]) h (ctxAt Try.prog L98 code98 [.r, .i, .i] (retK Try.prog res98 Q)) := by kernel_rfl
theorem X98_1_ok {t0 t1 t2 t3 t8 : Value} {h : AH} {Q : Res → AH → Prop} (H : X98_1 t0 t1 t2 t3 t8 h Q) : H98_1 t0 t1 t2 t3 t8 h Q := HL.step (L := L98) ((X98_1_eq t0 t1 t2 t3 t8 h Q).mp H)
noncomputable def X98 (t0 t1 t2 t3 : Value) (h : AH) (Q : Res → AH → Prop) : Prop :=
  let t10 : Value := t1
  bq (binV Try.prog .add 3 (.tmp 10) (.const (Value.int .i64 1)) t10 (Value.int .i64 1) h) fun t11 =>
  let t8 : Value := t11
  H98_1 t0 t1 t2 t3 t8 h Q
theorem X98_eq (t0 t1 t2 t3 : Value) (h : AH) (Q : Res → AH → Prop) : X98 t0 t1 t2 t3 h Q = wpC Try.prog L98 code98 (argA [t0, t1, t2, t3] Try.f98.ntmps) h (retK Try.prog res98 Q) := by kernel_rfl
theorem X98_body : Try.f98.body = some code98 := by kernel_rfl
theorem X98_ok {t0 t1 t2 t3 : Value} {h : AH} {Q : Res → AH → Prop} (H : X98 t0 t1 t2 t3 h Q) : HC Try.prog 98 [t0, t1, t2, t3].toArray h Q := HC.body Try.func98 X98_body ((X98_eq t0 t1 t2 t3 h Q).mp H)
end Go.Proofs.Ythjdohbkadpnjaa.X
