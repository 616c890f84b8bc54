/-
  PRINTED BY xgen.py (this session's own): what must hold ahead of functions.
-/
import Derived.Test.YthjdohbkadpnjaaAbC
import Derived.Test.YthjdohbkadpnjaaProg
import Derived.KernelRfl
namespace Go.Proofs.Ythjdohbkadpnjaa.X
open Go.Ab
set_option linter.unusedVariables false
set_option maxRecDepth 100000
-- 40 mahout/blocks.moment
noncomputable def code40 : Code := match Try.f40.body with | some c => c | none => .skip
noncomputable def res40 : List ResultVar := Try.f40.results.toList
def L40 : Nat → Option (List Nat) := fun r => none
noncomputable def X40 (t0 t1 : Value) (h : AH) (Q : Res → AH → Prop) : Prop :=
  let t4 : Value := (Value.int .i64 0)
  let t5 : Value := t0
  let t6 : Value := t1
  (if [t5, t6].all (plainN 12) then bq (flatV Try.prog (Builtin.max_ #[3, 3] 3 [t5, t6].toArray)) fun t7 => 
  (if [t7, (Value.int .i64 1099511627776)].all (plainN 12) then bq (flatV Try.prog (Builtin.min_ #[3, 3] 3 [t7, (Value.int .i64 1099511627776)].toArray)) fun t8 => 
  let t4 : Value := t8
  Q (.ret t4) h else False) else False)
theorem X40_eq (t0 t1 : Value) (h : AH) (Q : Res → AH → Prop) : X40 t0 t1 h Q = wpC Try.prog L40 code40 (argA [t0, t1] Try.f40.ntmps) h (retK Try.prog res40 Q) := by kernel_rfl
theorem X40_body : Try.f40.body = some code40 := by kernel_rfl
theorem X40_ok {t0 t1 : Value} {h : AH} {Q : Res → AH → Prop} (H : X40 t0 t1 h Q) : HC Try.prog 40 [t0, t1].toArray h Q := HC.body Try.func40 X40_body ((X40_eq t0 t1 h Q).mp H)

-- 22 mahout/blocks.New
noncomputable def code22 : Code := match Try.f22.body with | some c => c | none => .skip
noncomputable def res22 : List ResultVar := Try.f22.results.toList
def L22 : Nat → Option (List Nat) := fun r => none
noncomputable def X22 (t0 t1 : Value) (h : AH) (Q : Res → AH → Prop) : Prop :=
  let t4 : Value := (Value.pointer none)
  let t5 : Value := t0
  (if [t5, (Value.int .i64 1)].all (plainN 12) then bq (flatV Try.prog (Builtin.max_ #[3, 3] 3 [t5, (Value.int .i64 1)].toArray)) fun t6 => 
  (if [t6, (Value.int .i64 64)].all (plainN 12) then bq (flatV Try.prog (Builtin.min_ #[3, 3] 3 [t6, (Value.int .i64 64)].toArray)) fun t7 => 
  let t8 : Value := t1
  HC Try.prog 40 (([] : List Value) ++ [t8, (Value.int .i64 1)] ++ ([] : List Value)).toArray h (resK (fun t9 h => 
  (fun t10 h => 
  bq (bd #[(Value.int .i64 0), (Value.int .i64 0), (Value.map none)] [(0, 1, t7), (1, 1, t9), (2, 1, t10)]) fun t11 =>
  (fun t12 h => 
  let t4 : Value := t12
  Q (.ret t4) h) (opNew h 87 t11.cells).1 (opNew h 87 t11.cells).2) (opMakeMap h).1 (opMakeMap h).2) (fun v h => Q (.pan v) h)) else False) else False)
theorem X22_eq (t0 t1 : Value) (h : AH) (Q : Res → AH → Prop) : X22 t0 t1 h Q = wpC Try.prog L22 code22 (argA [t0, t1] Try.f22.ntmps) h (retK Try.prog res22 Q) := by kernel_rfl
theorem X22_body : Try.f22.body = some code22 := by kernel_rfl
theorem X22_ok {t0 t1 : Value} {h : AH} {Q : Res → AH → Prop} (H : X22 t0 t1 h Q) : HC Try.prog 22 [t0, t1].toArray h Q := HC.body Try.func22 X22_body ((X22_eq t0 t1 h Q).mp H)

-- 21 (*mahout/blocks.Manager).Beat
noncomputable def code21 : Code := match Try.f21.body with | some c => c | none => .skip
noncomputable def res21 : List ResultVar := Try.f21.results.toList
def L21 : Nat → Option (List Nat) := fun r => if r = 3 then some [0, 1, 10, 20, 21, 22] else none
noncomputable def H21_3 (t0 t1 t10 t20 t21 t22 : Value) (h : AH) (Q : Res → AH → Prop) : Prop := HL Try.prog (cAt code21 [.r, .r, .l, .r, .i, .i]) (mkA 36 [(0, t0), (1, t1), (10, t10), (20, t20), (21, t21), (22, t22)]) h (ctxAt Try.prog L21 code21 [.r, .r, .l, .r, .i] (retK Try.prog res21 Q))
noncomputable def X21_3 (t0 t1 t10 t20 t21 t22 : Value) (h : AH) (Q : Res → AH → Prop) : Prop :=
  bq (binV Try.prog .lss 3 (.tmp 22) (.tmp 21) t22 t21 h) fun t23 =>
  condP (some t23)
  (bq (ia 3 t20 t22) fun t24 =>
  bq (ldN 3 h t24) fun t25 =>
  (fun t12 h => 
  bq (stN 3 h t12 t25) fun h => (fun _ h => 
  bq (fa 2 1 t10) fun t26 =>
  bq (ld1 h t26) fun t27 =>
  bq (ldN 3 h t12) fun t28 =>
  bq (opMapUpdate Try.prog h 72 t27 t28 (Value.int .i64 1)) fun h => (fun _ h => 
  bq (binV Try.prog .add 3 (.tmp 22) (.const (Value.int .i64 1)) t22 (Value.int .i64 1) h) fun t29 =>
  let t22 : Value := t29
  H21_3 t0 t1 t10 t20 t21 t22 h Q) undef h) undef h) (opNew h 25 #[(Value.int .i64 0), (Value.int .i64 0), (Value.int .i64 0)]).1 (opNew h 25 #[(Value.int .i64 0), (Value.int .i64 0), (Value.int .i64 0)]).2)
  (let t30 : Value := t0
  bq (nilV t30) fun t31 =>
  bq (fa 2 1 t31) fun t32 =>
  bq (ld1 h t32) fun t33 =>
  let t34 : Value := t1
  bq (ldN 3 h t10) fun t35 =>
  bq (opMapUpdate Try.prog h 85 t33 t34 t35) fun h => (fun _ h => 
  Q (.ret (.tuple [].toArray)) h) undef h)
theorem X21_3_eq (t0 t1 t10 t20 t21 t22 : Value) (h : AH) (Q : Res → AH → Prop) : X21_3 t0 t1 t10 t20 t21 t22 h Q = wpC Try.prog L21 (cAt code21 [.r, .r, .l, .r, .i, .i]) (mkA 36 [(0, t0), (1, t1), (10, t10), (20, t20), (21, t21), (22, t22)]) h (ctxAt Try.prog L21 code21 [.r, .r, .l, .r, .i, .i] (retK Try.prog res21 Q)) := by kernel_rfl
theorem X21_3_ok {t0 t1 t10 t20 t21 t22 : Value} {h : AH} {Q : Res → AH → Prop} (H : X21_3 t0 t1 t10 t20 t21 t22 h Q) : H21_3 t0 t1 t10 t20 t21 t22 h Q := HL.step (L := L21) ((X21_3_eq t0 t1 t10 t20 t21 t22 h Q).mp H)
noncomputable def X21 (t0 t1 t2 t3 t4 : Value) (h : AH) (Q : Res → AH → Prop) : Prop :=
  let t13 : Value := t0
  bq (binV Try.prog .eql 32 (.tmp 13) (.const (Value.pointer none)) t13 (Value.pointer none) h) fun t14 =>
  condP (some t14)
  (Q (.ret (.tuple [].toArray)) h)
  (let t15 : Value := t2
  let t16 : Value := t3
  HC Try.prog 40 (([] : List Value) ++ [t16, (Value.int .i64 0)] ++ ([] : List Value)).toArray h (resK (fun t17 h => 
  (fun t18 h => 
  bq (bd #[(Value.complex .f64 0 0), (Value.int .i64 0), (Value.map none)] [(0, 1, t15), (1, 1, t17), (2, 1, t18)]) fun t19 =>
  (fun t10 h => 
  bq (stN 3 h t10 t19) fun h => (fun _ h => 
  let t20 : Value := t4
  bq (lenL t20) fun t21 =>
  let t22 : Value := (Value.int .i64 0)
  H21_3 t0 t1 t10 t20 t21 t22 h Q) undef h) (opNew h 74 #[(Value.complex .f64 0 0), (Value.int .i64 0), (Value.map none)]).1 (opNew h 74 #[(Value.complex .f64 0 0), (Value.int .i64 0), (Value.map none)]).2) (opMakeMap h).1 (opMakeMap h).2) (fun v h => Q (.pan v) h)))
theorem X21_eq (t0 t1 t2 t3 t4 : Value) (h : AH) (Q : Res → AH → Prop) : X21 t0 t1 t2 t3 t4 h Q = wpC Try.prog L21 code21 (argA [t0, t1, t2, t3, t4] Try.f21.ntmps) h (retK Try.prog res21 Q) := by kernel_rfl
theorem X21_body : Try.f21.body = some code21 := by kernel_rfl
theorem X21_ok {t0 t1 t2 t3 t4 : Value} {h : AH} {Q : Res → AH → Prop} (H : X21 t0 t1 t2 t3 t4 h Q) : HC Try.prog 21 [t0, t1, t2, t3, t4].toArray h Q := HC.body Try.func21 X21_body ((X21_eq t0 t1 t2 t3 t4 h Q).mp H)

-- 25 (*mahout/blocks.Manager).those
noncomputable def code25 : Code := match Try.f25.body with | some c => c | none => .skip
noncomputable def res25 : List ResultVar := Try.f25.results.toList
def L25 : Nat → Option (List Nat) := fun r => if r = 5 then some [0, 1, 2, 7, 16] else none
noncomputable def H25_5 (t0 t1 t2 t7 t16 : Value) (h : AH) (Q : Res → AH → Prop) : Prop := HL Try.prog (cAt code25 [.r, .r, .r, .l, .r, .i, .i]) (mkA 45 [(0, t0), (1, t1), (2, t2), (7, t7), (16, t16)]) h (ctxAt Try.prog L25 code25 [.r, .r, .r, .l, .r, .i] (retK Try.prog res25 Q))
noncomputable def X25_5 (t0 t1 t2 t7 t16 : Value) (h : AH) (Q : Res → AH → Prop) : Prop :=
  nextP Try.prog h t16 false (fun t17 h => 
  bq (opExtract t17 0) fun t18 =>
  condP (some t18)
  (bq (opEntry h t16) fun t19 =>
  bq (opExtract t19 0) fun t20 =>
  bq (opExtract t19 1) fun t21 =>
  (fun t9 h => 
  let t8 : Value := t20
  bq (stN 3 h t9 t21) fun h => (fun _ h => 
  (let t22 : Value := t1
  exP Try.prog 40 (([] : List Value) ++ [t22, (Value.int .i64 0)] ++ ([] : List Value)).toArray h fun t23 g => g = h ∧ (bq (fa 1 1 t9) fun t24 => (bq (ld1 h t24) fun t25 => (bq (binV Try.prog .sub 3 (.tmp 23) (.tmp 25) t23 t25 h) fun t26 => ((let t27 : Value := t0
  bq (nilV t27) fun t28 => (bq (fa 1 1 t28) fun t29 => (bq (ld1 h t29) fun t30 => (bq (binV Try.prog .lss 3 (.tmp 26) (.tmp 30) t26 t30 h) fun t31 => ((let t32 : Value := t31
  guardQ t32 true h (fun k => k t2 h) fun t33 h7_11 => (guardQ t32 true h7_11 (fun k => k t8 h7_11) fun t34 h7_12 => (guardQ t32 true h7_12 (fun k => bq (ldN 3 h7_12 t9) fun v => k v h7_12) fun t35 h7_13 => (guardQ t32 true h7_13 (fun k => callX Try.prog t33 [t34, t35] h7_13 k) fun t36 g => g = h7_13 ∧ (bq (pickV t32 t36 (Value.bool false)) fun t37 => ((True) ∧
  (fun h => 
  condP (some t37)
  (let t38 : Value := t7
  let t39 : Value := t8
  bq (bs 3 #[(Value.int .i64 0)] 1 h [(0, 1, t39)]) fun r => (fun t40 h => 
  bq (apT 3 1 8 (some (Value.int .i64 0)) h t38 t40) fun r => (fun t41 h => 
  let t7 : Value := t41
  H25_5 t0 t1 t2 t7 t16 h Q) r.1 r.2) r.1 r.2)
  (H25_5 t0 t1 t2 t7 t16 h Q)) h7_13))))))))))))))))) undef h) (opNew h 74 #[(Value.complex .f64 0 0), (Value.int .i64 0), (Value.map none)]).1 (opNew h 74 #[(Value.complex .f64 0 0), (Value.int .i64 0), (Value.map none)]).2)
  (let t42 : Value := t7
  HC Try.prog 42 (([] : List Value) ++ [t42] ++ ([] : List Value)).toArray h (resK (fun t43 h => 
  let t44 : Value := t7
  let t6 : Value := t44
  Q (.ret t6) h) (fun v h => Q (.pan v) h))))
theorem X25_5_eq (t0 t1 t2 t7 t16 : Value) (h : AH) (Q : Res → AH → Prop) : X25_5 t0 t1 t2 t7 t16 h Q = wpC Try.prog L25 (cAt code25 [.r, .r, .r, .l, .r, .i, .i]) (mkA 45 [(0, t0), (1, t1), (2, t2), (7, t7), (16, t16)]) h (ctxAt Try.prog L25 code25 [.r, .r, .r, .l, .r, .i, .i] (retK Try.prog res25 Q)) := by kernel_rfl
theorem X25_5_ok {t0 t1 t2 t7 t16 : Value} {h : AH} {Q : Res → AH → Prop} (H : X25_5 t0 t1 t2 t7 t16 h Q) : H25_5 t0 t1 t2 t7 t16 h Q := HL.step (L := L25) ((X25_5_eq t0 t1 t2 t7 t16 h Q).mp H)
noncomputable def X25 (t0 t1 t2 : Value) (h : AH) (Q : Res → AH → Prop) : Prop :=
  let t6 : Value := (Value.slice none 0 0)
  let t10 : Value := t0
  bq (binV Try.prog .eql 32 (.tmp 10) (.const (Value.pointer none)) t10 (Value.pointer none) h) fun t11 =>
  condP (some t11)
  (let t6 : Value := (Value.slice none 0 0)
  Q (.ret t6) h)
  (let t7 : Value := (Value.slice none 0 0)
  let t12 : Value := t0
  bq (nilV t12) fun t13 =>
  bq (fa 2 1 t13) fun t14 =>
  bq (ld1 h t14) fun t15 =>
  bq (opRange Try.prog h 85 t15) fun r => (fun t16 h => 
  H25_5 t0 t1 t2 t7 t16 h Q) r.1 r.2)
theorem X25_eq (t0 t1 t2 : Value) (h : AH) (Q : Res → AH → Prop) : X25 t0 t1 t2 h Q = wpC Try.prog L25 code25 (argA [t0, t1, t2] Try.f25.ntmps) h (retK Try.prog res25 Q) := by kernel_rfl
theorem X25_body : Try.f25.body = some code25 := by kernel_rfl
theorem X25_ok {t0 t1 t2 : Value} {h : AH} {Q : Res → AH → Prop} (H : X25 t0 t1 t2 h Q) : HC Try.prog 25 [t0, t1, t2].toArray h Q := HC.body Try.func25 X25_body ((X25_eq t0 t1 t2 h Q).mp H)

-- 11 (*mahout/blocks.Manager).Alive
noncomputable def code11 : Code := match Try.f11.body with | some c => c | none => .skip
noncomputable def res11 : List ResultVar := Try.f11.results.toList
def L11 : Nat → Option (List Nat) := fun r => none
noncomputable def X11 (t0 t1 : Value) (h : AH) (Q : Res → AH → Prop) : Prop :=
  let t4 : Value := (Value.slice none 0 0)
  let t5 : Value := t0
  let t6 : Value := t1
  HC Try.prog 25 (([] : List Value) ++ [t5, t6, (Value.func (.func 26) #[] #[])] ++ ([] : List Value)).toArray h (resK (fun t7 h => 
  let t4 : Value := t7
  Q (.ret t4) h) (fun v h => Q (.pan v) h))
theorem X11_eq (t0 t1 : Value) (h : AH) (Q : Res → AH → Prop) : X11 t0 t1 h Q = wpC Try.prog L11 code11 (argA [t0, t1] Try.f11.ntmps) h (retK Try.prog res11 Q) := by kernel_rfl
theorem X11_body : Try.f11.body = some code11 := by kernel_rfl
theorem X11_ok {t0 t1 : Value} {h : AH} {Q : Res → AH → Prop} (H : X11 t0 t1 h Q) : HC Try.prog 11 [t0, t1].toArray h Q := HC.body Try.func11 X11_body ((X11_eq t0 t1 h Q).mp H)

-- 26 (*mahout/blocks.Manager).Alive$1
noncomputable def code26 : Code := match Try.f26.body with | some c => c | none => .skip
noncomputable def res26 : List ResultVar := Try.f26.results.toList
def L26 : Nat → Option (List Nat) := fun r => none
noncomputable def X26 (t0 t1 : Value) (h : AH) (Q : Res → AH → Prop) : Prop :=
  (fun t3 h => 
  let t4 : Value := (Value.bool false)
  let t4 : Value := (Value.bool true)
  Q (.ret t4) h) (opNew h 74 t1.cells).1 (opNew h 74 t1.cells).2
theorem X26_eq (t0 t1 : Value) (h : AH) (Q : Res → AH → Prop) : X26 t0 t1 h Q = wpC Try.prog L26 code26 (argA [t0, t1] Try.f26.ntmps) h (retK Try.prog res26 Q) := by kernel_rfl
theorem X26_body : Try.f26.body = some code26 := by kernel_rfl
theorem X26_ok {t0 t1 : Value} {h : AH} {Q : Res → AH → Prop} (H : X26 t0 t1 h Q) : HC Try.prog 26 [t0, t1].toArray h Q := HC.body Try.func26 X26_body ((X26_eq t0 t1 h Q).mp H)

-- 28 (*mahout/blocks.Manager).Holders$1
noncomputable def code28 : Code := match Try.f28.body with | some c => c | none => .skip
noncomputable def res28 : List ResultVar := Try.f28.results.toList
def L28 : Nat → Option (List Nat) := fun r => none
noncomputable def X28 (t0 t1 t2 : Value) (h : AH) (Q : Res → AH → Prop) : Prop :=
  (fun t4 h => 
  let t5 : Value := (Value.bool false)
  bq (fa 2 1 t4) fun t6 =>
  bq (ld1 h t6) fun t7 =>
  bq (ldN 3 h t2) fun t8 =>
  bq (opLookup Try.prog h 72 t7 t8 false) fun t9 =>
  bq (binV Try.prog .eql 3 (.tmp 9) (.const (Value.int .i64 1)) t9 (Value.int .i64 1) h) fun t10 =>
  let t5 : Value := t10
  Q (.ret t5) h) (opNew h 74 t1.cells).1 (opNew h 74 t1.cells).2
theorem X28_eq (t0 t1 t2 : Value) (h : AH) (Q : Res → AH → Prop) : X28 t0 t1 t2 h Q = wpC Try.prog L28 code28 (argA [t0, t1, t2] Try.f28.ntmps) h (retK Try.prog res28 Q) := by kernel_rfl
theorem X28_body : Try.f28.body = some code28 := by kernel_rfl
theorem X28_ok {t0 t1 t2 : Value} {h : AH} {Q : Res → AH → Prop} (H : X28 t0 t1 t2 h Q) : HC Try.prog 28 [t0, t1, t2].toArray h Q := HC.body Try.func28 X28_body ((X28_eq t0 t1 t2 h Q).mp H)

-- 13 (*mahout/blocks.Manager).Holders
noncomputable def code13 : Code := match Try.f13.body with | some c => c | none => .skip
noncomputable def res13 : List ResultVar := Try.f13.results.toList
def L13 : Nat → Option (List Nat) := fun r => none
noncomputable def X13 (t0 t1 t2 : Value) (h : AH) (Q : Res → AH → Prop) : Prop :=
  (fun t4 h => 
  let t6 : Value := (Value.slice none 0 0)
  let t7 : Value := t0
  let t8 : Value := t2
  let t9 : Value := (Value.func (.func 28) [].toArray [t4].toArray)
  HC Try.prog 25 (([] : List Value) ++ [t7, t8, t9] ++ ([] : List Value)).toArray h (resK (fun t10 h => 
  let t6 : Value := t10
  Q (.ret t6) h) (fun v h => Q (.pan v) h))) (opNew h 25 t1.cells).1 (opNew h 25 t1.cells).2
theorem X13_eq (t0 t1 t2 : Value) (h : AH) (Q : Res → AH → Prop) : X13 t0 t1 t2 h Q = wpC Try.prog L13 code13 (argA [t0, t1, t2] Try.f13.ntmps) h (retK Try.prog res13 Q) := by kernel_rfl
theorem X13_body : Try.f13.body = some code13 := by kernel_rfl
theorem X13_ok {t0 t1 t2 : Value} {h : AH} {Q : Res → AH → Prop} (H : X13 t0 t1 t2 h Q) : HC Try.prog 13 [t0, t1, t2].toArray h Q := HC.body Try.func13 X13_body ((X13_eq t0 t1 t2 h Q).mp H)

-- 30 (*mahout/blocks.Manager).Place$1
noncomputable def code30 : Code := match Try.f30.body with | some c => c | none => .skip
noncomputable def res30 : List ResultVar := Try.f30.results.toList
def L30 : Nat → Option (List Nat) := fun r => none
noncomputable def X30 (t0 t1 t2 : Value) (h : AH) (Q : Res → AH → Prop) : Prop :=
  (fun t4 h => 
  let t5 : Value := (Value.bool false)
  bq (ld1 h t2) fun t6 =>
  let t7 : Value := t0
  HC Try.prog 31 (([] : List Value) ++ [t6, t7] ++ ([] : List Value)).toArray h (resK (fun t8 h => 
  bq (unV Try.prog .not t8) fun t9 =>
  let t5 : Value := t9
  Q (.ret t5) h) (fun v h => Q (.pan v) h))) (opNew h 74 t1.cells).1 (opNew h 74 t1.cells).2
theorem X30_eq (t0 t1 t2 : Value) (h : AH) (Q : Res → AH → Prop) : X30 t0 t1 t2 h Q = wpC Try.prog L30 code30 (argA [t0, t1, t2] Try.f30.ntmps) h (retK Try.prog res30 Q) := by kernel_rfl
theorem X30_body : Try.f30.body = some code30 := by kernel_rfl
theorem X30_ok {t0 t1 t2 : Value} {h : AH} {Q : Res → AH → Prop} (H : X30 t0 t1 t2 h Q) : HC Try.prog 30 [t0, t1, t2].toArray h Q := HC.body Try.func30 X30_body ((X30_eq t0 t1 t2 h Q).mp H)

-- 31 slices.Contains[[]int,int]
noncomputable def code31 : Code := match Try.f31.body with | some c => c | none => .skip
noncomputable def res31 : List ResultVar := Try.f31.results.toList
def L31 : Nat → Option (List Nat) := fun r => none
noncomputable def X31 (t0 t1 : Value) (h : AH) (Q : Res → AH → Prop) : Prop :=
  let t4 : Value := (Value.bool false)
  let t5 : Value := t0
  let t6 : Value := t1
  HC Try.prog 44 (([] : List Value) ++ [t5, t6] ++ ([] : List Value)).toArray h (resK (fun t7 h => 
  bq (binV Try.prog .geq 3 (.tmp 7) (.const (Value.int .i64 0)) t7 (Value.int .i64 0) h) fun t8 =>
  let t4 : Value := t8
  Q (.ret t4) h) (fun v h => Q (.pan v) h))
theorem X31_eq (t0 t1 : Value) (h : AH) (Q : Res → AH → Prop) : X31 t0 t1 h Q = wpC Try.prog L31 code31 (argA [t0, t1] Try.f31.ntmps) h (retK Try.prog res31 Q) := by kernel_rfl
theorem X31_body : Try.f31.body = some code31 := by kernel_rfl
theorem X31_ok {t0 t1 : Value} {h : AH} {Q : Res → AH → Prop} (H : X31 t0 t1 h Q) : HC Try.prog 31 [t0, t1].toArray h Q := HC.body Try.func31 X31_body ((X31_eq t0 t1 h Q).mp H)

-- 44 slices.Index[[]int,int]
noncomputable def code44 : Code := match Try.f44.body with | some c => c | none => .skip
noncomputable def res44 : List ResultVar := Try.f44.results.toList
def L44 : Nat → Option (List Nat) := fun r => if r = 2 then some [0, 1, 7, 8] else none
noncomputable def H44_2 (t0 t1 t7 t8 : Value) (h : AH) (Q : Res → AH → Prop) : Prop := HL Try.prog (cAt code44 [.r, .l, .r, .i, .i]) (mkA 19 [(0, t0), (1, t1), (7, t7), (8, t8)]) h (ctxAt Try.prog L44 code44 [.r, .l, .r, .i] (retK Try.prog res44 Q))
noncomputable def X44_2 (t0 t1 t7 t8 : Value) (h : AH) (Q : Res → AH → Prop) : Prop :=
  bq (binV Try.prog .lss 3 (.tmp 8) (.tmp 7) t8 t7 h) fun t9 =>
  condP (some t9)
  (let t10 : Value := t8
  let t5 : Value := t10
  let t11 : Value := t1
  let t12 : Value := t0
  let t13 : Value := t5
  bq (ia 1 t12 t13) fun t14 =>
  bq (ld1 h t14) fun t15 =>
  bq (binV Try.prog .eql 3 (.tmp 11) (.tmp 15) t11 t15 h) fun t16 =>
  condP (some t16)
  (let t17 : Value := t5
  let t4 : Value := t17
  Q (.ret t4) h)
  (bq (binV Try.prog .add 3 (.tmp 8) (.const (Value.int .i64 1)) t8 (Value.int .i64 1) h) fun t18 =>
  let t8 : Value := t18
  H44_2 t0 t1 t7 t8 h Q))
  (let t4 : Value := (Value.int .i64 (-1))
  Q (.ret t4) h)
theorem X44_2_eq (t0 t1 t7 t8 : Value) (h : AH) (Q : Res → AH → Prop) : X44_2 t0 t1 t7 t8 h Q = wpC Try.prog L44 (cAt code44 [.r, .l, .r, .i, .i]) (mkA 19 [(0, t0), (1, t1), (7, t7), (8, t8)]) h (ctxAt Try.prog L44 code44 [.r, .l, .r, .i, .i] (retK Try.prog res44 Q)) := by kernel_rfl
theorem X44_2_ok {t0 t1 t7 t8 : Value} {h : AH} {Q : Res → AH → Prop} (H : X44_2 t0 t1 t7 t8 h Q) : H44_2 t0 t1 t7 t8 h Q := HL.step (L := L44) ((X44_2_eq t0 t1 t7 t8 h Q).mp H)
noncomputable def X44 (t0 t1 : Value) (h : AH) (Q : Res → AH → Prop) : Prop :=
  let t4 : Value := (Value.int .i64 0)
  let t6 : Value := t0
  bq (lenL t6) fun t7 =>
  let t8 : Value := (Value.int .i64 0)
  H44_2 t0 t1 t7 t8 h Q
theorem X44_eq (t0 t1 : Value) (h : AH) (Q : Res → AH → Prop) : X44 t0 t1 h Q = wpC Try.prog L44 code44 (argA [t0, t1] Try.f44.ntmps) h (retK Try.prog res44 Q) := by kernel_rfl
theorem X44_body : Try.f44.body = some code44 := by kernel_rfl
theorem X44_ok {t0 t1 : Value} {h : AH} {Q : Res → AH → Prop} (H : X44 t0 t1 h Q) : HC Try.prog 44 [t0, t1].toArray h Q := HC.body Try.func44 X44_body ((X44_eq t0 t1 h Q).mp H)
end Go.Proofs.Ythjdohbkadpnjaa.X
