import Derived.KernelRfl
import Derived.Shelf.Sort.Plain
import Derived.Test.YtgdnfoijhdpppaaDoorProg
import Derived.Test.YtgdnfoijhdpppaaDoorZ18
import Derived.Test.YtgdnfoijhdpppaaDoorZ19
import Derived.Test.YtgdnfoijhdpppaaDoorZ24
set_option linter.unusedVariables false
set_option linter.unusedSimpArgs false
section
namespace Go.Proofs.YtgdnfoijhdpppaaDoor.X
open Go.Ab
set_option maxRecDepth 100000
noncomputable def code9:Code:=match Tryd.f9.body with | some c=>c | none=>.skip
noncomputable def res9:List ResultVar:=Tryd.f9.results.toList
def L9:Nat→Option (List Nat):=fun r=>none
noncomputable def X9 (t0:Value) (h:AH) (Q:Res→AH→Prop):Prop :=
 let t2:Value:=(Value.slice none 0 0)
 let t3:Value:=t0
 bq (binV Tryd.prog .eql 24 (.tmp 3) (.const (Value.pointer none)) t3 (Value.pointer none) h) fun t4 =>
 condP (some t4)
 (let t2:Value:=(Value.slice none 0 0)
 Q (.ret t2) h)
 (let t5:Value:=t0
 bq (nilV Tryd.prog t5) fun t6 =>
 bq (fa 0 1 t6) fun t7 =>
 bq (ld1 h t7) fun t8 =>
 bq (mi 51 t8) fun t9 =>
 HC Tryd.prog 18 (([]:List Value)++[(Value.slice none 0 0),(Value.string (ByteArray.mk #[47])),t9]++([]:List Value)).toArray h (resK (fun t10 h =>
 let t2:Value:=t10
 Q (.ret t2) h) (fun v h=>Q (.pan v) h)))
theorem X9_eq (t0:Value) (h:AH) (Q:Res→AH→Prop):X9 t0 h Q=wpC Tryd.prog L9 code9 (argA [t0] Tryd.f9.ntmps) h (retK Tryd.prog res9 Q):=by kernel_rfl
theorem X9_body:Tryd.f9.body=some code9:=by kernel_rfl
theorem X9_ok {t0:Value} {h:AH} {Q:Res→AH→Prop} (H:X9 t0 h Q):HC Tryd.prog 9 [t0].toArray h Q:=HC.body Tryd.func9 X9_body ((X9_eq t0 h Q).mp H)
noncomputable def code10:Code:=match Tryd.f10.body with | some c=>c | none=>.skip
noncomputable def res10:List ResultVar:=Tryd.f10.results.toList
def L10:Nat→Option (List Nat):=fun r=>if r=14 then some [4,11,61,62,63] else none
noncomputable def H10_14 (t4 t11 t61 t62 t63:Value) (h:AH) (Q:Res→AH→Prop):Prop:=HL Tryd.prog (cAt code10 (Dir.r::Dir.r::Dir.r::Dir.r::Dir.l::Dir.r::Dir.i::Dir.r::Dir.r::Dir.r::Dir.l::Dir.r::Dir.r::Dir.l::Dir.r::Dir.i::Dir.i::[])) (mkA 76 [(4,t4),(11,t11),(61,t61),(62,t62),(63,t63)]) h (ctxAt Tryd.prog L10 code10 (Dir.r::Dir.r::Dir.r::Dir.r::Dir.l::Dir.r::Dir.i::Dir.r::Dir.r::Dir.r::Dir.l::Dir.r::Dir.r::Dir.l::Dir.r::Dir.i::[]) (retK Tryd.prog res10 Q))
noncomputable def X10_14 (t4 t11 t61 t62 t63:Value) (h:AH) (Q:Res→AH→Prop):Prop :=
 bq (binV Tryd.prog .lss 3 (.tmp 63) (.tmp 62) t63 t62 h) fun t64 =>
 condP (some t64)
 (bq (ia 5 t61 t63) fun t65 =>
 bq (ldN 5 h t65) fun t66 =>
 (fun t13 h =>
 bq (stN 5 h t13 t66) fun h=>(fun _ h =>
 bq (fa 5 1 t11) fun t67 =>
 bq (ld1 h t67) fun t68 =>
 bq (fa 3 1 t13) fun t69 =>
 bq (ld1 h t69) fun t70 =>
 bq (binV Tryd.prog .add 3 (.tmp 68) (.tmp 70) t68 t70 h) fun t71 =>
 bq (fa 5 1 t11) fun t72 =>
 bq (stN 1 h t72 t71) fun h=>(fun _ h =>
 bq (binV Tryd.prog .add 3 (.tmp 63) (.const (Value.int .i64 1)) t63 (Value.int .i64 1) h) fun t73 =>
 let t63:Value:=t73
 H10_14 t4 t11 t61 t62 t63 h Q) undef h) undef h) (opNew h 34 #[(Value.int .i64 0),(Value.int .i64 0),(Value.int .i64 0),(Value.int .i64 0),(Value.int .u32 0)]).1 (opNew h 34 #[(Value.int .i64 0),(Value.int .i64 0),(Value.int .i64 0),(Value.int .i64 0),(Value.int .u32 0)]).2)
 (bq (ldN 7 h t11) fun t74 =>
 bq (stN 7 h t4 t74) fun h=>(fun _ h =>
 let t5:Value:=(Value.int .i64 0)
 bq (seqO [ldN 7 h t4,some t5]) fun vs=>Q (.ret (oneOf vs)) h) undef h)
theorem X10_14_eq (t4 t11 t61 t62 t63:Value) (h:AH) (Q:Res→AH→Prop):X10_14 t4 t11 t61 t62 t63 h Q=wpC Tryd.prog L10 (cAt code10 (Dir.r::Dir.r::Dir.r::Dir.r::Dir.l::Dir.r::Dir.i::Dir.r::Dir.r::Dir.r::Dir.l::Dir.r::Dir.r::Dir.l::Dir.r::Dir.i::Dir.i::[])) (mkA 76 [(4,t4),(11,t11),(61,t61),(62,t62),(63,t63)]) h (ctxAt Tryd.prog L10 code10 (Dir.r::Dir.r::Dir.r::Dir.r::Dir.l::Dir.r::Dir.i::Dir.r::Dir.r::Dir.r::Dir.l::Dir.r::Dir.r::Dir.l::Dir.r::Dir.i::Dir.i::[]) (retK Tryd.prog res10 Q)):=by kernel_rfl
theorem X10_14_ok {t4 t11 t61 t62 t63:Value} {h:AH} {Q:Res→AH→Prop} (H:X10_14 t4 t11 t61 t62 t63 h Q):H10_14 t4 t11 t61 t62 t63 h Q:=HL.step (L:=L10) ((X10_14_eq t4 t11 t61 t62 t63 h Q).mp H)
noncomputable def X10 (t0 t1:Value) (h:AH) (Q:Res→AH→Prop):Prop :=
 (fun t4 h =>
 let t5:Value:=(Value.int .i64 0)
 let t14:Value:=t0
 bq (binV Tryd.prog .eql 24 (.tmp 14) (.const (Value.pointer none)) t14 (Value.pointer none) h) fun t15 =>
 condP (some t15)
 (bq (bd #[(Value.bool false),(Value.bool false),(Value.int .i64 0),(Value.int .i64 0),(Value.int .i64 0),(Value.int .i64 0),(Value.slice none 0 0)] []) fun t16 =>
 bq (stN 7 h t4 t16) fun h=>(fun _ h =>
 let t5:Value:=(Value.int .i64 2)
 bq (seqO [ldN 7 h t4,some t5]) fun vs=>Q (.ret (oneOf vs)) h) undef h)
 (let t18:Value:=t0
 let t19:Value:=t1
 HC Tryd.prog 19 (([]:List Value)++[t18,t19]++([]:List Value)).toArray h (resK (fun t20 h =>
 let t17:Value:=t20
 bq (opExtract t17 0) fun t21 =>
 bq (opExtract t17 1) fun t22 =>
 bq (opExtract t17 2) fun t23 =>
 let t6:Value:=t21
 let t7:Value:=t22
 let t8:Value:=t23
 let t24:Value:=t8
 bq (binV Tryd.prog .neq 28 (.tmp 24) (.const (Value.int .i64 0)) t24 (Value.int .i64 0) h) fun t25 =>
 condP (some t25)
 (bq (bd #[(Value.bool false),(Value.bool false),(Value.int .i64 0),(Value.int .i64 0),(Value.int .i64 0),(Value.int .i64 0),(Value.slice none 0 0)] []) fun t26 =>
 let t27:Value:=t8
 bq (stN 7 h t4 t26) fun h=>(fun _ h =>
 let t5:Value:=t27
 bq (seqO [ldN 7 h t4,some t5]) fun vs=>Q (.ret (oneOf vs)) h) undef h)
 (let t28:Value:=t7
 bq (opTypeAssert Tryd.prog t28 51 true) fun t29 =>
 bq (opExtract t29 1) fun t30 =>
 bq (opExtract t29 0) fun t31 =>
 condP (some t30)
 (let t9:Value:=t31
 let t32:Value:=t9
 bq (nilV Tryd.prog t32) fun t33 =>
 bq (fa 0 1 t33) fun t34 =>
 bq (ld1 h t34) fun t35 =>
 let t36:Value:=t9
 bq (nilV Tryd.prog t36) fun t37 =>
 bq (fa 1 1 t37) fun t38 =>
 bq (ld1 h t38) fun t39 =>
 bq (bd #[(Value.bool false),(Value.bool false),(Value.int .i64 0),(Value.int .i64 0),(Value.int .i64 0),(Value.int .i64 0),(Value.slice none 0 0)] [(0,1,(Value.bool true)),(3,1,t35),(4,1,t39)]) fun t40 =>
 bq (stN 7 h t4 t40) fun h=>(fun q9_9 h =>
 (True) ∧
 let t5:Value:=(Value.int .i64 0)
 bq (seqO [ldN 7 h t4,some t5]) fun vs=>Q (.ret (oneOf vs)) h) undef h)
 (bq (opTypeAssert Tryd.prog t28 56 true) fun t41 =>
 bq (opExtract t41 1) fun t42 =>
 bq (opExtract t41 0) fun t43 =>
 condP (some t42)
 (let t10:Value:=t43
 (let t44:Value:=t10
 bq (nilV Tryd.prog t44) fun t45=>(bq (fa 0 1 t45) fun t46=>(bq (ld1 h t46) fun t47=>((let t48:Value:=t10
 bq (nilV Tryd.prog t48) fun t49=>(bq (fa 1 1 t49) fun t50=>(bq (ld1 h t50) fun t51=>((let t52:Value:=t10
 bq (nilV Tryd.prog t52) fun t53=>(bq (fa 2 1 t53) fun t54=>(bq (ld1 h t54) fun t55=>(exP Tryd.prog 20 (([]:List Value)++[t55]++([]:List Value)).toArray h fun t56 g=>g=h∧(bq (bd #[(Value.bool false),(Value.bool false),(Value.int .i64 0),(Value.int .i64 0),(Value.int .i64 0),(Value.int .i64 0),(Value.slice none 0 0)] [(1,1,t47),(2,1,t51),(6,1,t56)]) fun t57=>((fun t11 h12_14=>(bq (stN 7 h12_14 t11 t57) fun h12_15=>(let v12_15:Value:=undef
 ((bq (ld1 h12_14 t46) fun v=>(v=t47∧h12_14=h12_14)) ∧
 (bq (ld1 h12_14 t50) fun v=>(v=t51∧h12_14=h12_14)) ∧
 (bq (ld1 h12_14 t54) fun v=>(v=t55∧h12_14=h12_14)) ∧
 (exP Tryd.prog 20 (([]:List Value)++[t55]++([]:List Value)).toArray h12_14 fun v g=>g=h12_14∧(v=t56∧h12_14=h12_14)) ∧
 True) ∧
 (fun h =>
 let t58:Value:=t10
 bq (nilV Tryd.prog t58) fun t59 =>
 bq (fa 2 1 t59) fun t60 =>
 bq (ld1 h t60) fun t61 =>
 bq (lenL t61) fun t62 =>
 let t63:Value:=(Value.int .i64 0)
 H10_14 t4 t11 t61 t62 t63 h Q) h12_15))) (opNew h 46 #[(Value.bool false),(Value.bool false),(Value.int .i64 0),(Value.int .i64 0),(Value.int .i64 0),(Value.int .i64 0),(Value.slice none 0 0)]).1 (opNew h 46 #[(Value.bool false),(Value.bool false),(Value.int .i64 0),(Value.int .i64 0),(Value.int .i64 0),(Value.int .i64 0),(Value.slice none 0 0)]).2)))))))))))))))
 (bq (bd #[(Value.bool false),(Value.bool false),(Value.int .i64 0),(Value.int .i64 0),(Value.int .i64 0),(Value.int .i64 0),(Value.slice none 0 0)] []) fun t75 =>
 bq (stN 7 h t4 t75) fun h=>(fun _ h =>
 let t5:Value:=(Value.int .i64 70)
 bq (seqO [ldN 7 h t4,some t5]) fun vs=>Q (.ret (oneOf vs)) h) undef h)))) (fun v h=>Q (.pan v) h)))) (opNew h 46 #[(Value.bool false),(Value.bool false),(Value.int .i64 0),(Value.int .i64 0),(Value.int .i64 0),(Value.int .i64 0),(Value.slice none 0 0)]).1 (opNew h 46 #[(Value.bool false),(Value.bool false),(Value.int .i64 0),(Value.int .i64 0),(Value.int .i64 0),(Value.int .i64 0),(Value.slice none 0 0)]).2
theorem X10_eq (t0 t1:Value) (h:AH) (Q:Res→AH→Prop):X10 t0 t1 h Q=wpC Tryd.prog L10 code10 (argA [t0,t1] Tryd.f10.ntmps) h (retK Tryd.prog res10 Q):=by kernel_rfl
theorem X10_body:Tryd.f10.body=some code10:=by kernel_rfl
theorem X10_ok {t0 t1:Value} {h:AH} {Q:Res→AH→Prop} (H:X10 t0 t1 h Q):HC Tryd.prog 10 [t0,t1].toArray h Q:=HC.body Tryd.func10 X10_body ((X10_eq t0 t1 h Q).mp H)
noncomputable def code18:Code:=match Tryd.f18.body with | some c=>c | none=>.skip
noncomputable def res18:List ResultVar:=Tryd.f18.results.toList
def L18:Nat→Option (List Nat):=fun r=>if r=10 then some [0,1,8] else if r=11 then some [0,1,8,54,55,56] else if r=15 then some [0] else none
noncomputable def J18_15 (t0:Value) (h:AH) (Q:Res→AH→Prop):Prop:=wpC Tryd.prog L18 (cAt code18 [.r,.r]) (mkA 73 [(0,t0)]) h (ctxAt Tryd.prog L18 code18 [.r,.r] (retK Tryd.prog res18 Q))
noncomputable def K18_15 (t0:Value) (h:AH) (Q:Res→AH→Prop):Prop:=(ctxAt Tryd.prog L18 code18 [.r,.l] (retK Tryd.prog res18 Q)) .normal (mkA 73 [(0,t0)]) h
theorem K18_15_eq (t0:Value) (h:AH) (Q:Res→AH→Prop):J18_15 t0 h Q=K18_15 t0 h Q:=join_eq (p:=[.r]) (code:=code18) (by kernel_rfl) (by kernel_rfl)
noncomputable def J18_10 (t0 t1 t8:Value) (h:AH) (Q:Res→AH→Prop):Prop:=wpC Tryd.prog L18 (cAt code18 [.r,.l,.r,.i,.r,.r,.r,.l,.r,.r,.r]) (mkA 73 [(0,t0),(1,t1),(8,t8)]) h (ctxAt Tryd.prog L18 code18 [.r,.l,.r,.i,.r,.r,.r,.l,.r,.r,.r] (retK Tryd.prog res18 Q))
noncomputable def K18_10 (t0 t1 t8:Value) (h:AH) (Q:Res→AH→Prop):Prop:=(ctxAt Tryd.prog L18 code18 [.r,.l,.r,.i,.r,.r,.r,.l,.r,.r,.l] (retK Tryd.prog res18 Q)) .normal (mkA 73 [(0,t0),(1,t1),(8,t8)]) h
theorem K18_10_eq (t0 t1 t8:Value) (h:AH) (Q:Res→AH→Prop):J18_10 t0 t1 t8 h Q=K18_10 t0 t1 t8 h Q:=join_eq (p:=[.r,.l,.r,.i,.r,.r,.r,.l,.r,.r]) (code:=code18) (by kernel_rfl) (by kernel_rfl)
noncomputable def H18_11 (t0 t1 t8 t54 t55 t56:Value) (h:AH) (Q:Res→AH→Prop):Prop:=HL Tryd.prog (cAt code18 [.r,.l,.r,.i,.r,.r,.r,.l,.r,.r,.r,.r,.i,.i]) (mkA 73 [(0,t0),(1,t1),(8,t8),(54,t54),(55,t55),(56,t56)]) h (ctxAt Tryd.prog L18 code18 [.r,.l,.r,.i,.r,.r,.r,.l,.r,.r,.r,.r,.i] (retK Tryd.prog res18 Q))
noncomputable def X18_11 (t0 t1 t8 t54 t55 t56:Value) (h:AH) (Q:Res→AH→Prop):Prop :=
 bq (binV Tryd.prog .lss 3 (.tmp 56) (.tmp 55) t56 t55 h) fun t57 =>
 condP (some t57)
 (bq (ia 1 t54 t56) fun t58 =>
 bq (ld1 h t58) fun t59 =>
 let t10:Value:=t59
 let t60:Value:=t0
 let t61:Value:=t1
 let t62:Value:=t10
 bq (binV Tryd.prog .add 9 (.tmp 61) (.tmp 62) t61 t62 h) fun t63 =>
 let t64:Value:=t8
 bq (nilV Tryd.prog t64) fun t65 =>
 bq (fa 2 1 t65) fun t66 =>
 bq (ld1 h t66) fun t67 =>
 let t68:Value:=t10
 bq (opLookup Tryd.prog h 65 t67 t68 false) fun t69 =>
 HC Tryd.prog 18 (([]:List Value)++[t60,t63,t69]++([]:List Value)).toArray h (resK (fun t70 h =>
 let t0:Value:=t70
 bq (binV Tryd.prog .add 3 (.tmp 56) (.const (Value.int .i64 1)) t56 (Value.int .i64 1) h) fun t71 =>
 let t56:Value:=t71
 H18_11 t0 t1 t8 t54 t55 t56 h Q) (fun v h=>Q (.pan v) h)))
 (K18_15 t0 h Q)
theorem X18_11_eq (t0 t1 t8 t54 t55 t56:Value) (h:AH) (Q:Res→AH→Prop):X18_11 t0 t1 t8 t54 t55 t56 h Q=wpC Tryd.prog L18 (cAt code18 [.r,.l,.r,.i,.r,.r,.r,.l,.r,.r,.r,.r,.i,.i]) (mkA 73 [(0,t0),(1,t1),(8,t8),(54,t54),(55,t55),(56,t56)]) h (ctxAt Tryd.prog L18 code18 [.r,.l,.r,.i,.r,.r,.r,.l,.r,.r,.r,.r,.i,.i] (retK Tryd.prog res18 Q)):=by kernel_rfl
theorem X18_11_ok {t0 t1 t8 t54 t55 t56:Value} {h:AH} {Q:Res→AH→Prop} (H:X18_11 t0 t1 t8 t54 t55 t56 h Q):H18_11 t0 t1 t8 t54 t55 t56 h Q:=HL.step (L:=L18) ((X18_11_eq t0 t1 t8 t54 t55 t56 h Q).mp H)
noncomputable def X18_10 (t0 t1 t8:Value) (h:AH) (Q:Res→AH→Prop):Prop :=
 let t49:Value:=t8
 bq (nilV Tryd.prog t49) fun t50 =>
 bq (fa 2 1 t50) fun t51 =>
 bq (ld1 h t51) fun t52 =>
 HC Tryd.prog 31 (([]:List Value)++[t52]++([]:List Value)).toArray h (resK (fun t53 h =>
 HC Tryd.prog 30 (([]:List Value)++[t53]++([]:List Value)).toArray h (resK (fun t54 h =>
 bq (lenL t54) fun t55 =>
 let t56:Value:=(Value.int .i64 0)
 H18_11 t0 t1 t8 t54 t55 t56 h Q) (fun v h=>Q (.pan v) h))) (fun v h=>Q (.pan v) h))
theorem X18_10_eq (t0 t1 t8:Value) (h:AH) (Q:Res→AH→Prop):X18_10 t0 t1 t8 h Q=wpC Tryd.prog L18 (cAt code18 [.r,.l,.r,.i,.r,.r,.r,.l,.r,.r,.r]) (mkA 73 [(0,t0),(1,t1),(8,t8)]) h (ctxAt Tryd.prog L18 code18 [.r,.l,.r,.i,.r,.r,.r,.l,.r,.r,.r] (retK Tryd.prog res18 Q)):=by kernel_rfl
theorem X18_10_ok {t0 t1 t8:Value} {h:AH} {Q:Res→AH→Prop} (H:X18_10 t0 t1 t8 h Q):K18_10 t0 t1 t8 h Q:=(K18_10_eq t0 t1 t8 h Q).mp (((X18_10_eq t0 t1 t8 h Q).mp H))
noncomputable def X18_15 (t0:Value) (h:AH) (Q:Res→AH→Prop):Prop :=
 let t72:Value:=t0
 let t6:Value:=t72
 Q (.ret t6) h
theorem X18_15_eq (t0:Value) (h:AH) (Q:Res→AH→Prop):X18_15 t0 h Q=wpC Tryd.prog L18 (cAt code18 [.r,.r]) (mkA 73 [(0,t0)]) h (ctxAt Tryd.prog L18 code18 [.r,.r] (retK Tryd.prog res18 Q)):=by kernel_rfl
theorem X18_15_ok {t0:Value} {h:AH} {Q:Res→AH→Prop} (H:X18_15 t0 h Q):K18_15 t0 h Q:=(K18_15_eq t0 h Q).mp (((X18_15_eq t0 h Q).mp H))
noncomputable def X18 (t0 t1 t2:Value) (h:AH) (Q:Res→AH→Prop):Prop :=
 let t6:Value:=(Value.slice none 0 0)
 let t11:Value:=t2
 bq (opTypeAssert Tryd.prog t11 56 true) fun t12 =>
 bq (opExtract t12 1) fun t13 =>
 bq (opExtract t12 0) fun t14 =>
 condP (some t13)
 (let t7:Value:=t14
 let t15:Value:=t0
 let t16:Value:=t1
 let t17:Value:=t7
 bq (nilV Tryd.prog t17) fun t18 =>
 bq (fa 0 1 t18) fun t19 =>
 bq (ld1 h t19) fun t20 =>
 let t21:Value:=t7
 bq (nilV Tryd.prog t21) fun t22 =>
 bq (fa 1 1 t22) fun t23 =>
 bq (ld1 h t23) fun t24 =>
 let t25:Value:=t7
 bq (nilV Tryd.prog t25) fun t26 =>
 bq (fa 2 1 t26) fun t27 =>
 bq (ld1 h t27) fun t28 =>
 HC Tryd.prog 20 (([]:List Value)++[t28]++([]:List Value)).toArray h (resK (fun t29 h =>
 ((bq (ld1 h t23) fun u=>(u=t24))∧((bq (ld1 h t19) fun u=>(u=t20))∧(True))) ∧
 bq (bd #[(Value.string (ByteArray.mk #[])),(Value.bool false),(Value.bool false),(Value.int .i64 0),(Value.int .i64 0),(Value.slice none 0 0)] [(0,1,t16),(2,1,t20),(3,1,t24),(5,1,t29)]) fun t30 =>
 bq (bs 44 #[(Value.string (ByteArray.mk #[])),(Value.bool false),(Value.bool false),(Value.int .i64 0),(Value.int .i64 0),(Value.slice none 0 0)] 1 h [(0,6,t30)]) fun r=>(fun t31 h =>
 (True) ∧
 bq (apT 44 6 64 (some (Value.agg #[(Value.string (ByteArray.mk #[])),(Value.bool false),(Value.bool false),(Value.int .i64 0),(Value.int .i64 0),(Value.slice none 0 0)])) h t15 t31) fun r=>(fun t32 h =>
 (True) ∧
 let u0:Value:=t32
 let t0:Value:=u0
 K18_15 t0 h Q) r.1 r.2) r.1 r.2) (fun v h=>Q (.pan v) h)))
 (bq (opTypeAssert Tryd.prog t11 51 true) fun t33 =>
 bq (opExtract t33 1) fun t34 =>
 bq (opExtract t33 0) fun t35 =>
 condP (some t34)
 (let t8:Value:=t35
 let t36:Value:=t0
 let t37:Value:=t1
 let t38:Value:=t8
 bq (nilV Tryd.prog t38) fun t39 =>
 bq (fa 0 1 t39) fun t40 =>
 bq (ld1 h t40) fun t41 =>
 bq (bd #[(Value.string (ByteArray.mk #[])),(Value.bool false),(Value.bool false),(Value.int .i64 0),(Value.int .i64 0),(Value.slice none 0 0)] [(0,1,t37),(1,1,(Value.bool true)),(4,1,t41)]) fun t42 =>
 bq (bs 44 #[(Value.string (ByteArray.mk #[])),(Value.bool false),(Value.bool false),(Value.int .i64 0),(Value.int .i64 0),(Value.slice none 0 0)] 1 h [(0,6,t42)]) fun r=>(fun t43 h =>
 bq (apT 44 6 64 (some (Value.agg #[(Value.string (ByteArray.mk #[])),(Value.bool false),(Value.bool false),(Value.int .i64 0),(Value.int .i64 0),(Value.slice none 0 0)])) h t36 t43) fun r=>(fun t44 h =>
 let t0:Value:=t44
 let t45:Value:=t1
 bq (binV Tryd.prog .neq 9 (.tmp 45) (.const (Value.string (ByteArray.mk #[47]))) t45 (Value.string (ByteArray.mk #[47])) h) fun t46 =>
 condP (some t46)
 (let t47:Value:=t1
 bq (binV Tryd.prog .add 9 (.tmp 47) (.const (Value.string (ByteArray.mk #[47]))) t47 (Value.string (ByteArray.mk #[47])) h) fun t48 =>
 let t1:Value:=t48
 K18_10 t0 t1 t8 h Q)
 (K18_10 t0 t1 t8 h Q)) r.1 r.2) r.1 r.2)
 (K18_15 t0 h Q))
theorem X18_eq (t0 t1 t2:Value) (h:AH) (Q:Res→AH→Prop):X18 t0 t1 t2 h Q=wpC Tryd.prog L18 code18 (argA [t0,t1,t2] Tryd.f18.ntmps) h (retK Tryd.prog res18 Q):=by kernel_rfl
theorem X18_body:Tryd.f18.body=some code18:=by kernel_rfl
theorem X18_ok {t0 t1 t2:Value} {h:AH} {Q:Res→AH→Prop} (H:X18 t0 t1 t2 h Q):HC Tryd.prog 18 [t0,t1,t2].toArray h Q:=HC.body Tryd.func18 X18_body ((X18_eq t0 t1 t2 h Q).mp H)
noncomputable def code20:Code:=match Tryd.f20.body with | some c=>c | none=>.skip
noncomputable def res20:List ResultVar:=Tryd.f20.results.toList
def L20:Nat→Option (List Nat):=fun r=>none
noncomputable def X20 (t0:Value) (h:AH) (Q:Res→AH→Prop):Prop :=
 let t2:Value:=(Value.slice none 0 0)
 let t3:Value:=t0
 bq (binV Tryd.prog .eql 42 (.tmp 3) (.const (Value.slice none 0 0)) t3 (Value.slice none 0 0) h) fun t4 =>
 condP (some t4)
 (let t2:Value:=(Value.slice none 0 0)
 Q (.ret t2) h)
 (bq (bs 34 #[] 0 h []) fun r=>(fun t5 h =>
 let t6:Value:=t0
 bq (apT 34 5 40 (some (Value.agg #[(Value.int .i64 0),(Value.int .i64 0),(Value.int .i64 0),(Value.int .i64 0),(Value.int .u32 0)])) h t5 t6) fun r=>(fun t7 h =>
 let t2:Value:=t7
 Q (.ret t2) h) r.1 r.2) r.1 r.2)
theorem X20_eq (t0:Value) (h:AH) (Q:Res→AH→Prop):X20 t0 h Q=wpC Tryd.prog L20 code20 (argA [t0] Tryd.f20.ntmps) h (retK Tryd.prog res20 Q):=by kernel_rfl
theorem X20_body:Tryd.f20.body=some code20:=by kernel_rfl
theorem X20_ok {t0:Value} {h:AH} {Q:Res→AH→Prop} (H:X20 t0 h Q):HC Tryd.prog 20 [t0].toArray h Q:=HC.body Tryd.func20 X20_body ((X20_eq t0 h Q).mp H)
end Go.Proofs.YtgdnfoijhdpppaaDoor.X
end
section
namespace Go.Proofs.YtgdnfoijhdpppaaDoor.L
open Go.Ab Go.Tr Go.Mh Go.Proofs.YtgdnfoijhdpppaaDoor.X
set_option maxRecDepth 100000
theorem inv_do {b:Nat} {h:AH} {k pk:Value→AH→Prop}:invokeP Tryd.prog (.iface 51 (ptr b)) "mahout/tree.opened" [] h k pk=HC Tryd.prog 101 [ptr b].toArray h (resK k pk):=by
 have hm:methodOf Tryd.prog 51 (ptr b) "mahout/tree.opened" = some (101,ptr b):=by kernel_rfl
 unfold invokeP
 simp only [hm]
 exact callP_func (P:=Tryd.prog) (f:=101) (a:=#[]) (b:=#[]) (args:=[ptr b]) (h:=h) (k:=k) (pk:=pk) (by kernel_rfl)
theorem inv_fo {b:Nat} {h:AH} {k pk:Value→AH→Prop}:invokeP Tryd.prog (.iface 56 (ptr b)) "mahout/tree.opened" [] h k pk=HC Tryd.prog 103 [ptr b].toArray h (resK k pk):=by
 have hm:methodOf Tryd.prog 56 (ptr b) "mahout/tree.opened" = some (103,ptr b):=by kernel_rfl
 unfold invokeP
 simp only [hm]
 exact callP_func (P:=Tryd.prog) (f:=103) (a:=#[]) (b:=#[]) (args:=[ptr b]) (h:=h) (k:=k) (pk:=pk) (by kernel_rfl)
theorem fopened_ok {h:AH} {lo:Nat} {σ:St} (t:TW h lo σ) {p:Pt} {b:Nat} {sl:Value} {o:Bool} {hd:Int} {ps:List Pc} (hp:σ p=some (.file b sl o hd ps)):Ex Tryd.prog 103 [ptr b].toArray h (.bool o) h:=by
 refine X103_ok ?_
 unfold X103
 obtain ⟨g1,_⟩:=t.file hp
 simp (disch:=(first | omega | (simp only [beq_iff_eq,sz_push,sz_put,SC,Nat.reduceAdd,Nat.reduceLeDiff];done) | (simp only [beq_iff_eq,ne_eq,sz_push,sz_put];omega) | assumption | fail)) only [g1,SXB,SX,reduceIte,Int.reduceLT,Int.reduceLE,Int.reduceToNat,Int.reduceBEq,Int.reduceBNe,Nat.reduceAdd,Nat.reduceMul,Nat.reduceSub,Nat.reduceLeDiff]
 first | done | rfl | exact ⟨rfl,rfl⟩ | trivial
theorem over_eq:opExtract overV 0=some (.bool false):=rfl
theorem below_less {σ:St} {K:List Pt} (o:OkD σ K) {p:Pt} {x:Nm} (hx:(σ (p++[x])).isSome=true):(K.filter (below (p++[x]))).length < (K.filter (below p)).length:=by
 have hm:p++[x] ∈ K:=(o.mem _).1 hx
 have h1:=filter_split (below p) (below (p++[x])) K
 have h2:(K.filter (below (p++[x]))).filter (below p)=K.filter (below (p++[x])):=List.filter_eq_self.2 fun k hk=>by
  obtain ⟨r,hr,rfl⟩:=below_iff.1 (List.mem_filter.1 hk).2
  exact below_iff.2 ⟨[x]++r,by simp,by simp⟩
 rw [h2] at h1
 have h3:0 < ((K.filter fun k=>!below (p++[x]) k).filter (below p)).length:=by
  refine List.length_pos_of_mem (List.mem_filter.2 ⟨List.mem_filter.2 ⟨hm,?_⟩,?_⟩)
  ·have:below (p++[x]) (p++[x])=false:=by simp [Tr.below]
   rw [this];rfl
  ·exact below_iff.2 ⟨[x],by simp,rfl⟩
 omega
theorem born_ok {σ:St} {K:List Pt} (o:OkD σ K) {p:Pt} {b m clk:Nat} {q c:Int} {ks:List (Nm × Nat)} (hp:σ p=some (.dir b m clk q c ks)) :
  ((ks.map (ent σ p)).toArray.toList.map (·.born)).Nodup∧∀ e ∈ (ks.map (ent σ p)).toArray.toList,e.born < clk:=by
 obtain ⟨h1,h2⟩:=o.born _ _ _ _ _ _ _ hp
 constructor
 ·rw [List.toList_toArray,List.map_map]
  exact h1
 ·intro e he
  rw [List.toList_toArray] at he
  obtain ⟨x,hx,rfl⟩:=List.mem_map.1 he
  exact h2 x hx
theorem opened_all {lo:Nat} {σ:St} {K:List Pt} (o:OkD σ K):∀ (n:Nat) (p:Pt) (r:Row) (h:AH),(K.filter (below p)).length < n→TW h lo σ→σ p=some r →
  ∀ {k pk:Value→AH→Prop},(∀ b:Bool,k (.bool b) h)→invokeP Tryd.prog (ifcR r) "mahout/tree.opened" [] h k pk:=by
 intro n
 induction n with
 | zero=>intro p r h hn;omega
 | succ n ih =>
  intro p r h hn t hp k pk hk
  cases r with
  | file b sl oo hd ps =>
   unfold ifcR
   rw [inv_fo]
   exact HC.exact (fopened_ok t hp) (hk oo)
  | dir b m clk q c ks =>
   unfold ifcR
   rw [inv_do]
   refine HC.pureF (X101_ok ?_)
   unfold X101
   obtain ⟨g1,g2,g3⟩:=t.dir hp
   have hm:m < h.size:=(t.bnd p _ m hp (by simp [own])).2
   obtain ⟨n1,n2⟩:=born_ok o hp
   have hw:=Walk.start (es:=(ks.map (ent σ p)).toArray) g2 hm n2 n1
   simp (disch:=(first | omega | (simp only [beq_iff_eq,sz_push,sz_put,SC,Nat.reduceAdd,Nat.reduceLeDiff];done) | (simp only [beq_iff_eq,ne_eq,sz_push,sz_put];omega) | assumption | fail)) only [g1,g2,SXB,SX,reduceIte,Int.reduceLT,Int.reduceLE,Int.reduceToNat,Int.reduceBEq,Int.reduceBNe,Nat.reduceAdd,Nat.reduceMul,Nat.reduceSub,Nat.reduceLeDiff]
   -- the walk
   have loop:∀ (d:Nat) (vs:List MapEntry) (h1:AH),(ks.map (ent σ p)).toArray.size < vs.length + d→Walk h1 h.size m (ks.map (ent σ p)).toArray vs→Kp h.size h h1→h1.size=h.size + 1 →
     H101_2 (.pointer (some ⟨h.size,0,none⟩)) h1 fun r h₁=>Kp h.size h h₁∧r.Below h.size∧resK k pk r h:=by
    intro d
    induction d with
    | zero=>intro vs h1 hd hw K1 hs;have:=hw.length;omega
    | succ d ihd =>
     intro vs h1 hd hw K1 hs
     refine X101_2_ok ?_
     unfold X101_2
     refine hw.next (by omega) (fun _=>?_) (fun e h2 he hne hs2 hk2 hw2=>?_)
     ·simp (disch:=(first | omega | (simp only [beq_iff_eq,sz_push,sz_put,SC,Nat.reduceAdd,Nat.reduceLeDiff];done) | (simp only [beq_iff_eq,ne_eq,sz_push,sz_put];omega) | assumption | fail)) only [over_eq,SXB,SX,reduceIte,Int.reduceLT,Int.reduceLE,Int.reduceToNat,Int.reduceBEq,Int.reduceBNe,Nat.reduceAdd,Nat.reduceMul,Nat.reduceSub,Nat.reduceLeDiff]
      exact ⟨K1,.bool _,hk false⟩
     ·rw [List.toList_toArray] at he
      obtain ⟨x,hx,rfl⟩:=List.mem_map.1 he
      have hx2:=(o.kids _ _ _ _ _ _ _ hp x.1).1 (List.mem_map.2 ⟨x,hx,rfl⟩)
      obtain ⟨r2,hr2⟩:=Option.isSome_iff_exists.1 hx2
      have hent:opEntry h2 (.pointer (some ⟨h.size,0,none⟩))=some (.tuple #[.string (mkB x.1),ifcR r2]):=by
       rw [hw2.entry]
       unfold ent
       rw [hr2]
       rfl
      have K2:Kp h.size h h2:=⟨by have:=K1.size;omega,fun j hj=>(hk2 j (by omega)).trans (K1.get j hj)⟩
      simp (disch:=(first | omega | (simp only [beq_iff_eq,sz_push,sz_put,SC,Nat.reduceAdd,Nat.reduceLeDiff];done) | (simp only [beq_iff_eq,ne_eq,sz_push,sz_put];omega) | assumption | fail)) only [hent,SXB,SX,reduceIte,Int.reduceLT,Int.reduceLE,Int.reduceToNat,Int.reduceBEq,Int.reduceBNe,Nat.reduceAdd,Nat.reduceMul,Nat.reduceSub,Nat.reduceLeDiff]
      refine ih (p++[x.1]) r2 h2 (by have:=below_less o hx2;omega) (t.kp K2) hr2 fun b=>?_
      cases b with
      | true =>
       simp (disch:=(first | omega | (simp only [beq_iff_eq,sz_push,sz_put,SC,Nat.reduceAdd,Nat.reduceLeDiff];done) | (simp only [beq_iff_eq,ne_eq,sz_push,sz_put];omega) | assumption | fail)) only [SXB,SX,reduceIte,Int.reduceLT,Int.reduceLE,Int.reduceToNat,Int.reduceBEq,Int.reduceBNe,Nat.reduceAdd,Nat.reduceMul,Nat.reduceSub,Nat.reduceLeDiff]
       exact ⟨K2,.bool _,hk true⟩
      | false =>
       simp (disch:=(first | omega | (simp only [beq_iff_eq,sz_push,sz_put,SC,Nat.reduceAdd,Nat.reduceLeDiff];done) | (simp only [beq_iff_eq,ne_eq,sz_push,sz_put];omega) | assumption | fail)) only [SXB,SX,reduceIte,Int.reduceLT,Int.reduceLE,Int.reduceToNat,Int.reduceBEq,Int.reduceBNe,Nat.reduceAdd,Nat.reduceMul,Nat.reduceSub,Nat.reduceLeDiff]
       exact ihd _ h2 (by simp only [List.length_append,List.length_singleton];omega) hw2 K2 (by omega)
   exact loop ((ks.map (ent σ p)).toArray.size + 1) [] _ (by simp) hw ((Kp.refl _ _).push _ _ (Nat.le_refl _)) (by simp)
theorem eq_nilS {x y:Operand} {h:AH}:binV Tryd.prog .eql 42 x y (.slice none 0 0) (.slice none 0 0) h=some (.bool true):=by kernel_rfl
theorem eq_someS {a:Addr} {n c:Nat} {x y:Operand} {h:AH}:binV Tryd.prog .eql 42 x y (.slice (some a) n c) (.slice none 0 0) h=some (.bool false):=by kernel_rfl
theorem pc_size (ps:List Pc):∀ v ∈ ps.map encPc,v.cells.size=5:=by
 intro v hv
 obtain ⟨x,_,rfl⟩:=List.mem_map.1 hv
 rfl
theorem below_pc {n:Nat} (ps:List Pc):∀ v ∈ flatC (ps.map encPc),Below n v:=by
 intro v hv
 obtain ⟨w,hw,hv⟩:=List.mem_flatMap.1 hv
 obtain ⟨x,_,rfl⟩:=List.mem_map.1 hw
 simp only [encPc,cells_agg,List.mem_cons,List.not_mem_nil,or_false] at hv
 rcases hv with rfl | rfl | rfl | rfl | rfl <;> exact .int _ _
theorem apT_new {e z bytes k:Nat} {zero x:Value} {h:AH} {ob:Obj} {l:List Value} (hk:h.get k=some (ob,none)) (hx:Src h z x l) (hz:0 < z) (hl:∀ v ∈ l,v.cells.size=z) (hp:0 < l.length) (hb:0 < bytes) (hb':bytes < 1073741824)
  (hzero:zero.cells.size=z) (hs:l.length * bytes < 1099511627776) :
  apT e z bytes (some zero) h (.slice (some ⟨k,0,none⟩) 0 0) x=some (.slice (some ⟨h.size,0,none⟩) l.length l.length,h.push (.cells (flatC l).toArray e (0,0)) (some z)):=by
 obtain ⟨h1,h2⟩:=hx
 have hfm:(flatC l).toArray.size=l.length * z:=by simp [flatC_length hl]
 have h0:opFirst h z 0 (.slice (some ⟨k,0,none⟩) 0 0)=some #[]:=by simp [opFirst]
 unfold apT
 simp only [h1,h2,hfm,if_true]
 rw [if_neg (by omega),if_pos ⟨hz,hb,by omega,by rw [Nat.zero_add];exact hs,by simp [hzero]⟩]
 simp only [h0]
 simp only [hk]
 simp
theorem clone_ok {h:AH} {sl:Value} {ps:List Pc} (o:Hld 34 5 h 0 sl (ps.map encPc)) (hb:∀ k,blkOf sl=some k→k < h.size) (hn:ps.length ≤ 1024):Ex Tryd.prog 20 [sl].toArray h (slV (ps.map encPc)) h:=by
 refine HC.pureF (HC.ghOr (X20_ok ?_))
 unfold X20
 have hz:=pc_size ps
 have hbl:Below h.size (slV (ps.map encPc)):=below_slV (below_pc ps)
 have hln:(ps.map encPc).length ≤ 1024:=by simpa using hn
 generalize ps.map encPc=l at o hz hbl hln
 have hsrc:=o.src hz
 cases o with
 | nil =>
  simp (disch:=(first | omega | (simp only [beq_iff_eq,sz_push,sz_put,SC,Nat.reduceAdd,Nat.reduceLeDiff];done) | (simp only [beq_iff_eq,ne_eq,sz_push,sz_put];omega) | assumption | fail)) only [eq_nilS,SXB,SX,reduceIte,Int.reduceLT,Int.reduceLE,Int.reduceToNat,Int.reduceBEq,Int.reduceBNe,Nat.reduceAdd,Nat.reduceMul,Nat.reduceSub,Nat.reduceLeDiff]
  exact .inr ⟨Kp.refl _ _,hbl,rfl⟩
 | @row k c _ hk hg hc hp =>
  have hkk:=hb k rfl
  have hg1:(h.push (.cells #[] 34 (0,0)) none).get k=some (.cells c 34 (0,0),some 5):=by rw [get_push_ne (by omega)];exact hg
  have o1:Hld 34 5 (h.push (.cells #[] 34 (0,0)) none) 0 (.slice (some ⟨k,0,none⟩) l.length l.length) l:=.row (Nat.zero_le _) hg1 hc hp
  have hap:=apT_new (e:=34) (bytes:=40) (zero:=.agg #[.int .i64 0,.int .i64 0,.int .i64 0,.int .i64 0,.int .u32 0]) (h:=h.push (.cells #[] 34 (0,0)) none) (k:=h.size) (get_push_eq rfl) (o1.src hz) (by omega) hz hp (by omega) (by omega) rfl (by omega)
  simp (disch:=(first | omega | (simp only [beq_iff_eq,sz_push,sz_put,SC,Nat.reduceAdd,Nat.reduceLeDiff];done) | (simp only [beq_iff_eq,ne_eq,sz_push,sz_put];omega) | assumption | fail)) only [eq_someS,hap,SXB,SX,reduceIte,Int.reduceLT,Int.reduceLE,Int.reduceToNat,Int.reduceBEq,Int.reduceBNe,Nat.reduceAdd,Nat.reduceMul,Nat.reduceSub,Nat.reduceLeDiff]
  have o2:Hld 34 5 ((h.push (.cells #[] 34 (0,0)) none).push (.cells (flatC l).toArray 34 (0,0)) (some 5)) 0 (.slice (some ⟨h.size + 1,0,none⟩) l.length l.length) l:=.row (Nat.zero_le _) (get_push_eq (by simp)) rfl hp
  obtain ⟨h3,gu,gf,gs⟩:=o2.turn (P:=Tryd.prog) (by omega) hz
  refine .inl ⟨_,_,h3,rfl,Gh.turn gu .here,?_,hbl,rfl⟩
  refine (((Kp.refl h.size h).push _ _ (Nat.le_refl _)).push _ _ (by simp)).trans ⟨by omega,fun j hj=>gf j fun e=>?_⟩
  injection e with e
  have:h.size + 1=j:=e
  omega
end Go.Proofs.YtgdnfoijhdpppaaDoor.L
end
section
namespace Go.Proofs.YtgdnfoijhdpppaaDoor.X
open Go.Ab
set_option maxRecDepth 100000
noncomputable def code30:Code:=match Tryd.f30.body with | some c=>c | none=>.skip
noncomputable def res30:List ResultVar:=Tryd.f30.results.toList
def L30:Nat→Option (List Nat):=fun r=>none
noncomputable def X30 (t0:Value) (h:AH) (Q:Res→AH→Prop):Prop :=
 let t2:Value:=(Value.slice none 0 0)
 let t4:Value:=t0
 HC Tryd.prog 37 (([]:List Value)++[t4]++([]:List Value)).toArray h (resK (fun t5 h =>
 let t3:Value:=t5
 let t6:Value:=t3
 HC Tryd.prog 38 (([]:List Value)++[t6]++([]:List Value)).toArray h (resK (fun t7 h =>
 let t8:Value:=t3
 let t2:Value:=t8
 Q (.ret t2) h) (fun v h=>Q (.pan v) h))) (fun v h=>Q (.pan v) h))
theorem X30_eq (t0:Value) (h:AH) (Q:Res→AH→Prop):X30 t0 h Q=wpC Tryd.prog L30 code30 (argA [t0] Tryd.f30.ntmps) h (retK Tryd.prog res30 Q):=by kernel_rfl
theorem X30_body:Tryd.f30.body=some code30:=by kernel_rfl
theorem X30_ok {t0:Value} {h:AH} {Q:Res→AH→Prop} (H:X30 t0 h Q):HC Tryd.prog 30 [t0].toArray h Q:=HC.body Tryd.func30 X30_body ((X30_eq t0 h Q).mp H)
noncomputable def code31:Code:=match Tryd.f31.body with | some c=>c | none=>.skip
noncomputable def res31:List ResultVar:=Tryd.f31.results.toList
def L31:Nat→Option (List Nat):=fun r=>none
noncomputable def X31 (t0:Value) (h:AH) (Q:Res→AH→Prop):Prop :=
 (fun t1 h =>
 let t2:Value:=Value.nilFunc
 let t3:Value:=(Value.func (.func 39) [].toArray [t1].toArray)
 let t2:Value:=t3
 Q (.ret t2) h) (opNew h 65 t0.cells).1 (opNew h 65 t0.cells).2
theorem X31_eq (t0:Value) (h:AH) (Q:Res→AH→Prop):X31 t0 h Q=wpC Tryd.prog L31 code31 (argA [t0] Tryd.f31.ntmps) h (retK Tryd.prog res31 Q):=by kernel_rfl
theorem X31_body:Tryd.f31.body=some code31:=by kernel_rfl
theorem X31_ok {t0:Value} {h:AH} {Q:Res→AH→Prop} (H:X31 t0 h Q):HC Tryd.prog 31 [t0].toArray h Q:=HC.body Tryd.func31 X31_body ((X31_eq t0 h Q).mp H)
noncomputable def code37:Code:=match Tryd.f37.body with | some c=>c | none=>.skip
noncomputable def res37:List ResultVar:=Tryd.f37.results.toList
def L37:Nat→Option (List Nat):=fun r=>none
noncomputable def X37 (t0:Value) (h:AH) (Q:Res→AH→Prop):Prop :=
 let t2:Value:=(Value.slice none 0 0)
 let t3:Value:=t0
 HC Tryd.prog 47 (([]:List Value)++[(Value.slice none 0 0),t3]++([]:List Value)).toArray h (resK (fun t4 h =>
 let t2:Value:=t4
 Q (.ret t2) h) (fun v h=>Q (.pan v) h))
theorem X37_eq (t0:Value) (h:AH) (Q:Res→AH→Prop):X37 t0 h Q=wpC Tryd.prog L37 code37 (argA [t0] Tryd.f37.ntmps) h (retK Tryd.prog res37 Q):=by kernel_rfl
theorem X37_body:Tryd.f37.body=some code37:=by kernel_rfl
theorem X37_ok {t0:Value} {h:AH} {Q:Res→AH→Prop} (H:X37 t0 h Q):HC Tryd.prog 37 [t0].toArray h Q:=HC.body Tryd.func37 X37_body ((X37_eq t0 h Q).mp H)
noncomputable def code39:Code:=match Tryd.f39.body with | some c=>c | none=>.skip
noncomputable def res39:List ResultVar:=Tryd.f39.results.toList
def L39:Nat→Option (List Nat):=fun r=>if r=1 then some [0,5] else none
noncomputable def H39_1 (t0 t5:Value) (h:AH) (Q:Res→AH→Prop):Prop:=HL Tryd.prog (cAt code39 [.r,.i,.i]) (mkA 14 [(0,t0),(5,t5)]) h (ctxAt Tryd.prog L39 code39 [.r,.i] (retK Tryd.prog res39 Q))
noncomputable def X39_1 (t0 t5:Value) (h:AH) (Q:Res→AH→Prop):Prop :=
 nextP Tryd.prog h t5 false (fun t6 h =>
 bq (opExtract t6 0) fun t7 =>
 condP (some t7)
 (bq (opEntry h t5) fun t8 =>
 bq (opExtract t8 0) fun t9 =>
 let t3:Value:=t9
 let t10:Value:=t0
 let t11:Value:=t3
 callP Tryd.prog t10 [t11] h (fun t12 h =>
 bq (unV Tryd.prog .not t12) fun t13 =>
 condP (some t13)
 (Q (.ret (.tuple [].toArray)) h)
 (H39_1 t0 t5 h Q)) (fun v h=>Q (.pan v) h))
 (Q (.ret (.tuple [].toArray)) h))
theorem X39_1_eq (t0 t5:Value) (h:AH) (Q:Res→AH→Prop):X39_1 t0 t5 h Q=wpC Tryd.prog L39 (cAt code39 [.r,.i,.i]) (mkA 14 [(0,t0),(5,t5)]) h (ctxAt Tryd.prog L39 code39 [.r,.i,.i] (retK Tryd.prog res39 Q)):=by kernel_rfl
theorem X39_1_ok {t0 t5:Value} {h:AH} {Q:Res→AH→Prop} (H:X39_1 t0 t5 h Q):H39_1 t0 t5 h Q:=HL.step (L:=L39) ((X39_1_eq t0 t5 h Q).mp H)
noncomputable def X39 (t0 t1:Value) (h:AH) (Q:Res→AH→Prop):Prop :=
 bq (ld1 h t1) fun t4 =>
 bq (opRange Tryd.prog h 65 t4) fun r=>(fun t5 h =>
 H39_1 t0 t5 h Q) r.1 r.2
theorem X39_eq (t0 t1:Value) (h:AH) (Q:Res→AH→Prop):X39 t0 t1 h Q=wpC Tryd.prog L39 code39 (argA [t0,t1] Tryd.f39.ntmps) h (retK Tryd.prog res39 Q):=by kernel_rfl
theorem X39_body:Tryd.f39.body=some code39:=by kernel_rfl
theorem X39_ok {t0 t1:Value} {h:AH} {Q:Res→AH→Prop} (H:X39 t0 t1 h Q):HC Tryd.prog 39 [t0,t1].toArray h Q:=HC.body Tryd.func39 X39_body ((X39_eq t0 t1 h Q).mp H)
noncomputable def code47:Code:=match Tryd.f47.body with | some c=>c | none=>.skip
noncomputable def res47:List ResultVar:=Tryd.f47.results.toList
def L47:Nat→Option (List Nat):=fun r=>if r=2 then some [2] else none
noncomputable def rec47_2 (t2:Value):Loop:=recOf (mkA 13 [(2,t2)]) (rps (cAt code47 [.r,.l,.r,.i])) (rasg (cAt code47 [.r,.l,.r,.i])) (rbody (cAt code47 [.r,.l,.r,.i]))
noncomputable def X47 (t0 t1:Value) (h:AH) (Q:Res→AH→Prop):Prop :=
 (fun t2 h =>
 let t4:Value:=(Value.slice none 0 0)
 let t6:Value:=t1
 (rndP none h∧rangeQ Tryd.prog t6 (rec47_2 t2) h (fun j h=>jumpX
 (bq (ld1 h t2) fun t12 =>
 let t4:Value:=t12
 Q (.ret t4) h)
 (Q (.ret t4) h)
 (fun i=>if i=0 then (bq (ld1 h t2) fun t12 =>
 let t4:Value:=t12
 Q (.ret t4) h) else (False))
 (fun l=>False) j) (fun v h=>Q (.pan v) h))) (opNew h 27 t0.cells).1 (opNew h 27 t0.cells).2
theorem X47_eq (t0 t1:Value) (h:AH) (Q:Res→AH→Prop):X47 t0 t1 h Q=wpC Tryd.prog L47 code47 (argA [t0,t1] Tryd.f47.ntmps) h (retK Tryd.prog res47 Q):=by kernel_rfl
theorem X47_body:Tryd.f47.body=some code47:=by kernel_rfl
theorem X47_ok {t0 t1:Value} {h:AH} {Q:Res→AH→Prop} (H:X47 t0 t1 h Q):HC Tryd.prog 47 [t0,t1].toArray h Q:=HC.body Tryd.func47 X47_body ((X47_eq t0 t1 h Q).mp H)
noncomputable def Y47_2 (t2 t7:Value) (k:Nat) (h:AH) (K:Value→AH→Prop):Prop :=
 let t5:Value:=t7
 bq (loopAt h k) fun q=>q.1.state=.ready∧(fun h:AH =>
 bq (ld1 h t2) fun t8 =>
 let t9:Value:=t5
 bq (bs 9 #[(Value.string (ByteArray.mk #[]))] 1 h [(0,1,t9)]) fun r=>(fun t10 h =>
 bq (apT 9 1 16 (some (Value.string (ByteArray.mk #[]))) h t8 t10) fun r=>(fun t11 h =>
 bq (stN 1 h t2 t11) fun h=>(fun _ h =>
 endRd K k none h) undef h) r.1 r.2) r.1 r.2) (h.put k (some (.loop { q.1 with state:=.busy },q.2)))
theorem Y47_2_eq (t2 t7:Value) (k:Nat) (h:AH) (K:Value→AH→Prop) (st:LoopState) (pe:Option Code):Y47_2 t2 t7 k h K=roundW Tryd.prog L47 { (rec47_2 t2) with state:=st,pending:=pe } k [t7] h K:=by kernel_rfl
theorem Y47_2_ok {t2 t7:Value} {k:Nat} {h:AH} {K:Value→AH→Prop} {st:LoopState} {pe:Option Code} {s:Option Nat} (hl:loopAt h k=some ({ (rec47_2 t2) with state:=st,pending:=pe },s)) (H:Y47_2 t2 t7 k h K):roundP Tryd.prog k [t7] h K:=roundP_of hl (by kernel_rfl) ((Y47_2_eq t2 t7 k h K st pe).mp H)
end Go.Proofs.YtgdnfoijhdpppaaDoor.X
end
section
namespace Go.Ab
theorem putCells_eq {α:Type} [Inhabited α] (enc:α→Value) (off:Nat) (d:List α) (c:Array Value):Sort.putCells enc off d.toArray c=setFrom c off (d.map enc):=by
 apply Array.ext_getElem?
 intro i
 rw [setFrom_get]
 simp only [Sort.putCells,Array.getElem?_mapIdx,List.length_map,List.size_toArray]
 by_cases h:i < c.size
 ·rw [Array.getElem?_eq_getElem h]
  simp only [Option.map_some,h,and_true]
  split
  ·rename_i e
   have hlt:i - off < d.length:=by omega
   rw [List.getElem?_map,List.getElem?_eq_getElem hlt]
   simp [hlt]
  ·rfl
 ·rw [Array.getElem?_eq_none (by omega),if_neg (by omega)]
  rfl
theorem RW.besideAll {P:Program} {E:Ren} {h:AH}:∀ (l:List Obj) {w:World},RW P E h w→RW P E h (Sort.grow w l.toArray)∧Ext E w E (Sort.grow w l.toArray):=by
 intro l
 induction l with
 | nil=>intro w r;simpa using ⟨r,Ext.refl E w⟩
 | cons o l ih =>
  intro w r
  obtain ⟨r1,x1⟩:=r.beside o
  obtain ⟨r2,x2⟩:=ih r1
  have e:Sort.grow w (o::l).toArray=Sort.grow (w.alloc o) l.toArray:=by
   rw [Sort.alloc_eq_grow,Sort.grow_grow]
   simp
  rw [e]
  exact ⟨r2,x1.trans x2⟩
theorem RW.putRow {P:Program} {E:Ren} {h:AH} {w:World} (r:RW P E h w) {α:Type} [Inhabited α] (enc:α→Value) (hp:∀ x,∃ n,plainN n (enc x)=true) {k b off:Nat} {c:Array Value} {e:TypeId} {s:Option Nat} (hk:h.get k=some (.cells c e (0,0),s)) (hat:E.at_ k=some b)
  (d:List α) (hn:off + d.length ≤ c.size) (m:Nat) (os:Array Obj) :
  RW P E (h.put k (some (.cells (setFrom c off (d.map enc)) e (0,0),s))) (Sort.grow (Sort.putRow enc (Sort.ahead w m) b off d.toArray) os) ∧
  Ext E w E (Sort.grow (Sort.putRow enc (Sort.ahead w m) b off d.toArray) os):=by
 have ra:RW P E h (Sort.ahead w m):=r.of_heap rfl
 have xa:Ext E w E (Sort.ahead w m):=(Ext.refl E _).of_heap rfl rfl rfl rfl (by simp [Sort.ahead])
 obtain ⟨n,o',h1,h2,h3,h4⟩:=ra.live _ _ _ hk
 rw [hat] at h1;cases h1
 obtain ⟨c',fz',g1,g2,g3,g4⟩:=ra.cells hk hat
 rw [h2] at g1;cases g1
 have hv:RA E (d.map enc).toArray (d.map enc).toArray:=⟨rfl,fun i v v' a b=>by
  rw [a] at b;cases b
  simp only [List.getElem?_toArray,List.getElem?_map,Option.map_eq_some_iff] at a
  obtain ⟨x,_,rfl⟩:=a
  obtain ⟨n,hn⟩:=hp x
  exact RV.of_plain hn⟩
 have g2':off + (d.map enc).toArray.size ≤ c.size:=by simpa using hn
 have ho:RO E (E.soft k) (.cells (setFrom c off (d.map enc)) e (0,0)) (.cells (setFrom c' off (d.map enc)) e fz'):=by
  have hrel:=setFrom_rel off hv g2 g3
  cases h3 with
  | hard hs hh=>exact .hard hs ⟨by rw [setFrom_size,setFrom_size];exact hh.1,by simpa using hrel⟩
  | soft hs hz hn' hle hf hh=>exact .soft hs hz (by rw [setFrom_size];exact hn') (by rw [setFrom_size,setFrom_size];exact hle) (by rw [setFrom_size];exact hf) (by simpa using hrel)
 obtain ⟨q1,q2⟩:=ra.put hk rfl hat ho
 have ew:Sort.putRow enc (Sort.ahead w m) b off d.toArray = { Sort.ahead w m with heap:=(Sort.ahead w m).heap.setIfInBounds b (.cells (setFrom c' off (d.map enc)) e fz') }:=by
  unfold Sort.putRow Sort.mapBlock
  congr 1
  apply Array.ext_getElem?
  intro i
  rw [Array.getElem?_modify,Array.getElem?_setIfInBounds]
  by_cases e:b=i
  ·subst e
   rw [if_pos rfl,if_pos rfl,h2,if_pos (Array.getElem?_eq_some_iff.1 h2).1]
   simp only [Option.map_some,Sort.onCells,putCells_eq]
  ·rw [if_neg e,if_neg e]
 rw [← ew] at q1 q2
 obtain ⟨r3,x3⟩:=q1.besideAll os.toList
 simp only [Array.toArray_toList] at r3 x3
 exact ⟨r3,xa.trans (q2.trans x3)⟩
theorem RW.holds {P:Program} {E:Ren} {h:AH} {w:World} (r:RW P E h w) {α:Type} [Inhabited α] (enc:α→Value) (hp:∀ x,∃ n,plainN n (enc x)=true) {k b off:Nat} {c:Array Value} {e:TypeId} {s:Option Nat} (hk:h.get k=some (.cells c e (0,0),s)) (hat:E.at_ k=some b)
  (d:List α) (hc:∀ (i:Nat) x,d[i]?=some x→c[off + i]?=some (enc x)):Sort.Holds enc w b off d.toArray:=by
 obtain ⟨c',fz',g1,g2,g3,g4⟩:=r.cells hk hat
 intro j hj
 have hj':j < d.length:=by simpa using hj
 have h1:=hc j d[j] (List.getElem?_eq_getElem hj')
 have hlt:=(Array.getElem?_eq_some_iff.1 h1).1
 have hlt':off + j < c'.size:=by omega
 have h2:=g3 (off + j) _ _ h1 (Array.getElem?_eq_getElem hlt')
 obtain ⟨n,hn⟩:=hp d[j]
 have h3:=RV.eq_of_plain hn h2
 have e1:(d.toArray)[j]! = d[j]:=by simp [hj']
 have hnf:=g4 rfl (off + j) hlt'
 constructor
 ·simp only [World.cell?,g1]
  rw [e1]
  simp [Array.getElem?_eq_getElem hlt',h3]
 ·simp only [World.frozen?,g1]
  simp
  omega
theorem setFrom_allS {c:Array Value} {l:List Value} (hl:l.length=c.size):setFrom c 0 l=l.toArray:=by
 apply Array.ext_getElem?
 intro i
 rw [setFrom_get]
 by_cases h:i < c.size
 ·rw [if_pos (by omega)];simp
 ·rw [if_neg (by omega),Array.getElem?_eq_none (by omega),Array.getElem?_eq_none (by simp;omega)]
end Go.Ab
end
