/-
  PRINTED BY xgen.py (this session's own): what must hold ahead of functions.
-/
import Derived.Test.YtconhcamgebcaaaGreatDoorAbC
import Derived.Test.YtconhcamgebcaaaGreatDoorProg
import Derived.KernelRfl
namespace Go.Proofs.YtconhcamgebcaaaGreatDoor.X
open Go.Ab
set_option linter.unusedVariables false
set_option maxRecDepth 100000
-- 9 mahout/mahoutlaw12.NamesNil
noncomputable def code9 : Code := match Tryz.f9.body with | some c => c | none => .skip
noncomputable def res9 : List ResultVar := Tryz.f9.results.toList
def L9 : Nat → Option (List Nat) := fun r => none
noncomputable def X9 (t0 t1 t2 : Value) (h : AH) (Q : Res → AH → Prop) : Prop :=
  let t6 : Value := (Value.bool false)
  HC Tryz.prog 34 (([] : List Value) ++ [] ++ ([] : List Value)).toArray h (resK (fun t14 h => 
  bq (unV Tryz.prog .not t14) fun t15 =>
  condP (some t15)
  (let t6 : Value := (Value.bool false)
  Q (.ret t6) h)
  (let t7 : Value := (Value.pointer none)
  HC Tryz.prog 36 (([] : List Value) ++ [(Value.int .i64 100)] ++ ([] : List Value)).toArray h (resK (fun t17 h => 
  let t18 : Value := t0
  let t19 : Value := t1
  HC Tryz.prog 35 (([] : List Value) ++ [t17, t18, t19] ++ ([] : List Value)).toArray h (resK (fun t20 h => 
  let t16 : Value := t20
  bq (opExtract t16 0) fun t21 =>
  bq (opExtract t16 1) fun t22 =>
  let t8 : Value := t21
  let t9 : Value := t22
  HC Tryz.prog 35 (([] : List Value) ++ [(Value.pointer none), (Value.int .i64 1), (Value.int .i64 0)] ++ ([] : List Value)).toArray h (resK (fun t24 h => 
  let t23 : Value := t24
  bq (opExtract t23 0) fun t25 =>
  bq (opExtract t23 1) fun t26 =>
  let t10 : Value := t25
  let t11 : Value := t26
  let t27 : Value := t0
  bq (binV Tryz.prog .geq 3 (.tmp 27) (.const (Value.int .i64 1)) t27 (Value.int .i64 1) h) fun t28 =>
  let t29 : Value := t28
  guardQ t29 true h (fun k => k t1 h) fun t30 h =>
  guardQ t29 true h (fun k => bq (binV Tryz.prog .geq 3 (.tmp 30) (.const (Value.int .i64 0)) t30 (Value.int .i64 0) h) fun v => k v h) fun t31 h =>
  bq (pickV t29 t31 (Value.bool false)) fun t32 =>
  let t12 : Value := t32
  let t33 : Value := t8
  bq (binV Tryz.prog .neq 69 (.tmp 33) (.const (Value.pointer none)) t33 (Value.pointer none) h) fun t34 =>
  let t35 : Value := t12
  bq (binV Tryz.prog .neq 4 (.tmp 34) (.tmp 35) t34 t35 h) fun t36 =>
  let t37 : Value := t36
  guardQ t37 false h (fun k => k t9 h) fun t38 h =>
  guardQ t37 false h (fun k => bq (binV Tryz.prog .eql 24 (.tmp 38) (.const (Value.int .i64 0)) t38 (Value.int .i64 0) h) fun v => k v h) fun t39 h =>
  guardQ t37 false h (fun k => k t12 h) fun t40 h =>
  guardQ t37 false h (fun k => bq (binV Tryz.prog .neq 4 (.tmp 39) (.tmp 40) t39 t40 h) fun v => k v h) fun t41 h =>
  bq (pickV t37 (Value.bool true) t41) fun t42 =>
  let t43 : Value := t42
  guardQ t43 false h (fun k => k t12 h) fun t44 h =>
  guardQ t43 false h (fun k => bq (unV Tryz.prog .not t44) fun v => k v h) fun t45 h =>
  guardQ t43 false h (fun k => k t45 h) fun t46 h =>
  guardQ t46 true h (fun k => k t9 h) fun t47 h =>
  guardQ t46 true h (fun k => bq (binV Tryz.prog .neq 24 (.tmp 47) (.const (Value.int .i64 2)) t47 (Value.int .i64 2) h) fun v => k v h) fun t48 h =>
  guardQ t43 false h (fun k => bq (pickV t46 t48 (Value.bool false)) fun v => k v h) fun t49 h =>
  bq (pickV t43 (Value.bool true) t49) fun t50 =>
  let t51 : Value := t50
  guardQ t51 false h (fun k => k t10 h) fun t52 h =>
  guardQ t51 false h (fun k => bq (binV Tryz.prog .neq 69 (.tmp 52) (.const (Value.pointer none)) t52 (Value.pointer none) h) fun v => k v h) fun t53 h =>
  bq (pickV t51 (Value.bool true) t53) fun t54 =>
  let t55 : Value := t54
  guardQ t55 false h (fun k => k t11 h) fun t56 h =>
  guardQ t55 false h (fun k => bq (binV Tryz.prog .neq 24 (.tmp 56) (.const (Value.int .i64 2)) t56 (Value.int .i64 2) h) fun v => k v h) fun t57 h =>
  bq (pickV t55 (Value.bool true) t57) fun t58 =>
  condP (some t58)
  (let t6 : Value := (Value.bool false)
  Q (.ret t6) h)
  (let t59 : Value := t2
  bq (bs 9 #[(Value.string (ByteArray.mk #[]))] 1 h [(0, 1, t59)]) fun r => (fun t60 h => 
  bq (bd #[(Value.int .i64 0), (Value.int .i64 0), (Value.int .i64 0), (Value.slice none 0 0), (Value.slice none 0 0)] [(0, 1, (Value.int .i64 2)), (1, 1, (Value.int .i64 1)), (2, 1, (Value.int .i64 1)), (4, 1, t60)]) fun t61 =>
  (fun t13 h => 
  bq (stN 5 h t13 t61) fun h => (fun _ h => 
  let t62 : Value := t7
  bq (ldN 5 h t13) fun t63 =>
  HC Tryz.prog 37 (([] : List Value) ++ [t62, t63] ++ ([] : List Value)).toArray h (resK (fun t64 h => 
  bq (lenL t64) fun t65 =>
  bq (binV Tryz.prog .eql 3 (.tmp 65) (.const (Value.int .i64 0)) t65 (Value.int .i64 0) h) fun t66 =>
  let t67 : Value := t66
  guardQ t67 true h (fun k => k t7 h) fun t68 h =>
  guardQ t67 true h (fun k => HC Tryz.prog 38 (([] : List Value) ++ [t68] ++ ([] : List Value)).toArray h (resK k (fun v h => Q (.pan v) h))) fun t69 h =>
  guardQ t67 true h (fun k => bq (lenL t69) fun v => k v h) fun t70 h =>
  guardQ t67 true h (fun k => bq (binV Tryz.prog .eql 3 (.tmp 70) (.const (Value.int .i64 0)) t70 (Value.int .i64 0) h) fun v => k v h) fun t71 h =>
  bq (pickV t67 t71 (Value.bool false)) fun t72 =>
  let t73 : Value := t72
  guardQ t73 true h (fun k => k t7 h) fun t74 h =>
  guardQ t73 true h (fun k => k t2 h) fun t75 h =>
  guardQ t73 true h (fun k => HC Tryz.prog 39 (([] : List Value) ++ [t74, t75] ++ ([] : List Value)).toArray h (resK k (fun v h => Q (.pan v) h))) fun t76 h =>
  guardQ t73 true h (fun k => bq (binV Tryz.prog .eql 24 (.tmp 76) (.const (Value.int .i64 2)) t76 (Value.int .i64 2) h) fun v => k v h) fun t77 h =>
  bq (pickV t73 t77 (Value.bool false)) fun t78 =>
  let t79 : Value := t78
  guardQ t79 true h (fun k => k t7 h) fun t80 h =>
  guardQ t79 true h (fun k => HC Tryz.prog 40 (([] : List Value) ++ [t80] ++ ([] : List Value)).toArray h (resK k (fun v h => Q (.pan v) h))) fun t81 h =>
  guardQ t79 true h (fun k => bq (unV Tryz.prog .not t81) fun v => k v h) fun t82 h =>
  bq (pickV t79 t82 (Value.bool false)) fun t83 =>
  let t84 : Value := t83
  guardQ t84 true h (fun k => k t7 h) fun t85 h =>
  guardQ t84 true h (fun k => HC Tryz.prog 41 (([] : List Value) ++ [t85] ++ ([] : List Value)).toArray h (resK k (fun v h => Q (.pan v) h))) fun t86 h =>
  guardQ t84 true h (fun k => bq (lenL t86) fun v => k v h) fun t87 h =>
  guardQ t84 true h (fun k => bq (binV Tryz.prog .eql 3 (.tmp 87) (.const (Value.int .i64 0)) t87 (Value.int .i64 0) h) fun v => k v h) fun t88 h =>
  bq (pickV t84 t88 (Value.bool false)) fun t89 =>
  let t90 : Value := t89
  guardQ t90 true h (fun k => k t7 h) fun t91 h =>
  guardQ t90 true h (fun k => HC Tryz.prog 42 (([] : List Value) ++ [t91] ++ ([] : List Value)).toArray h (resK k (fun v h => Q (.pan v) h))) fun t92 h =>
  guardQ t90 true h (fun k => bq (binV Tryz.prog .eql 3 (.tmp 92) (.const (Value.int .i64 0)) t92 (Value.int .i64 0) h) fun v => k v h) fun t93 h =>
  bq (pickV t90 t93 (Value.bool false)) fun t94 =>
  let t95 : Value := t94
  guardQ t95 true h (fun k => k t7 h) fun t96 h =>
  guardQ t95 true h (fun k => HC Tryz.prog 43 (([] : List Value) ++ [t96] ++ ([] : List Value)).toArray h (resK k (fun v h => Q (.pan v) h))) fun t97 h =>
  guardQ t95 true h (fun k => bq (binV Tryz.prog .eql 3 (.tmp 97) (.const (Value.int .i64 0)) t97 (Value.int .i64 0) h) fun v => k v h) fun t98 h =>
  bq (pickV t95 t98 (Value.bool false)) fun t99 =>
  let t100 : Value := t99
  guardQ t100 true h (fun k => k t7 h) fun t101 h =>
  guardQ t100 true h (fun k => HC Tryz.prog 44 (([] : List Value) ++ [t101] ++ ([] : List Value)).toArray h (resK k (fun v h => Q (.pan v) h))) fun t102 h =>
  guardQ t100 true h (fun k => bq (lenL t102) fun v => k v h) fun t103 h =>
  guardQ t100 true h (fun k => bq (binV Tryz.prog .eql 3 (.tmp 103) (.const (Value.int .i64 0)) t103 (Value.int .i64 0) h) fun v => k v h) fun t104 h =>
  bq (pickV t100 t104 (Value.bool false)) fun t105 =>
  let t6 : Value := t105
  Q (.ret t6) h) (fun v h => Q (.pan v) h))) undef h) (opNew h 76 #[(Value.int .i64 0), (Value.int .i64 0), (Value.int .i64 0), (Value.slice none 0 0), (Value.slice none 0 0)]).1 (opNew h 76 #[(Value.int .i64 0), (Value.int .i64 0), (Value.int .i64 0), (Value.slice none 0 0), (Value.slice none 0 0)]).2) r.1 r.2)) (fun v h => Q (.pan v) h))) (fun v h => Q (.pan v) h))) (fun v h => Q (.pan v) h)))) (fun v h => Q (.pan v) h))
theorem X9_eq (t0 t1 t2 : Value) (h : AH) (Q : Res → AH → Prop) : X9 t0 t1 t2 h Q = wpC Tryz.prog L9 code9 (argA [t0, t1, t2] Tryz.f9.ntmps) h (retK Tryz.prog res9 Q) := by kernel_rfl
theorem X9_body : Tryz.f9.body = some code9 := by kernel_rfl
theorem X9_ok {t0 t1 t2 : Value} {h : AH} {Q : Res → AH → Prop} (H : X9 t0 t1 t2 h Q) : HC Tryz.prog 9 [t0, t1, t2].toArray h Q := HC.body Tryz.func9 X9_body ((X9_eq t0 t1 t2 h Q).mp H)

-- 35 mahout/names.Open
noncomputable def code35 : Code := match Tryz.f35.body with | some c => c | none => .skip
noncomputable def res35 : List ResultVar := Tryz.f35.results.toList
def L35 : Nat → Option (List Nat) := fun r => none
noncomputable def X35 (t0 t1 t2 : Value) (h : AH) (Q : Res → AH → Prop) : Prop :=
  let t6 : Value := (Value.pointer none)
  let t7 : Value := (Value.int .i64 0)
  let t13 : Value := t1
  bq (binV Tryz.prog .lss 3 (.tmp 13) (.const (Value.int .i64 1)) t13 (Value.int .i64 1) h) fun t14 =>
  let t15 : Value := t14
  guardQ t15 false h (fun k => k t2 h) fun t16 h =>
  guardQ t15 false h (fun k => bq (binV Tryz.prog .lss 3 (.tmp 16) (.const (Value.int .i64 0)) t16 (Value.int .i64 0) h) fun v => k v h) fun t17 h =>
  bq (pickV t15 (Value.bool true) t17) fun t18 =>
  condP (some t18)
  (let t6 : Value := (Value.pointer none)
  let t7 : Value := (Value.int .i64 2)
  Q (.ret (.tuple [t6, t7].toArray)) h)
  (let t20 : Value := t0
  HC Tryz.prog 15 (([] : List Value) ++ [t20] ++ ([] : List Value)).toArray h (resK (fun t21 h => 
  let t19 : Value := t21
  bq (opExtract t19 0) fun t22 =>
  bq (opExtract t19 1) fun t23 =>
  bq (opExtract t19 2) fun t24 =>
  (fun t9 h => 
  let t8 : Value := t22
  bq (stN 2 h t9 t23) fun h => (fun _ h => 
  let t10 : Value := t24
  let t25 : Value := t10
  bq (binV Tryz.prog .neq 24 (.tmp 25) (.const (Value.int .i64 0)) t25 (Value.int .i64 0) h) fun t26 =>
  condP (some t26)
  (let t27 : Value := t10
  let t6 : Value := (Value.pointer none)
  let t7 : Value := t27
  Q (.ret (.tuple [t6, t7].toArray)) h)
  (HC Tryz.prog 89 (([] : List Value) ++ [] ++ ([] : List Value)).toArray h (resK (fun t28 h => 
  let t29 : Value := t8
  (fun t30 h => 
  let t31 : Value := t1
  let t32 : Value := t2
  bq (bd #[(Value.pointer none), (Value.pointer none), (Value.map none), (Value.map none), (Value.int .i64 0), (Value.int .i64 0), (Value.slice none 0 0), (Value.int .i64 0)] [(0, 1, t28), (1, 1, t29), (3, 1, t30), (4, 1, t31), (5, 1, t32)]) fun t33 =>
  (fun t34 h => 
  let t11 : Value := t34
  let t35 : Value := t11
  bq (ldN 2 h t9) fun t36 =>
  HC Tryz.prog 90 (([] : List Value) ++ [t35, t36] ++ ([] : List Value)).toArray h (resK (fun t37 h => 
  let t12 : Value := t37
  let t38 : Value := t12
  bq (binV Tryz.prog .neq 24 (.tmp 38) (.const (Value.int .i64 0)) t38 (Value.int .i64 0) h) fun t39 =>
  condP (some t39)
  (let t40 : Value := t12
  let t6 : Value := (Value.pointer none)
  let t7 : Value := t40
  Q (.ret (.tuple [t6, t7].toArray)) h)
  (let t41 : Value := t11
  let t6 : Value := t41
  let t7 : Value := (Value.int .i64 0)
  Q (.ret (.tuple [t6, t7].toArray)) h)) (fun v h => Q (.pan v) h))) (opNew h 166 t33.cells).1 (opNew h 166 t33.cells).2) (opMakeMap h).1 (opMakeMap h).2) (fun v h => Q (.pan v) h)))) undef h) (opNew h 39 #[(Value.string (ByteArray.mk #[])), (Value.slice none 0 0)]).1 (opNew h 39 #[(Value.string (ByteArray.mk #[])), (Value.slice none 0 0)]).2) (fun v h => Q (.pan v) h)))
theorem X35_eq (t0 t1 t2 : Value) (h : AH) (Q : Res → AH → Prop) : X35 t0 t1 t2 h Q = wpC Tryz.prog L35 code35 (argA [t0, t1, t2] Tryz.f35.ntmps) h (retK Tryz.prog res35 Q) := by kernel_rfl
theorem X35_body : Tryz.f35.body = some code35 := by kernel_rfl
theorem X35_ok {t0 t1 t2 : Value} {h : AH} {Q : Res → AH → Prop} (H : X35 t0 t1 t2 h Q) : HC Tryz.prog 35 [t0, t1, t2].toArray h Q := HC.body Tryz.func35 X35_body ((X35_eq t0 t1 t2 h Q).mp H)
end Go.Proofs.YtconhcamgebcaaaGreatDoor.X
