import Derived.KernelRfl
import Derived.Test.YtgdnfoijhdpppaaDoorProg
import Derived.Test.YtgdnfoijhdpppaaDoorZ19
set_option linter.unusedVariables false
set_option linter.unusedSimpArgs false
section
namespace Go.Proofs.YtgdnfoijhdpppaaDoor.X
open Go.Ab
set_option maxRecDepth 100000
noncomputable def code7:Code:=match Tryd.f7.body with | some c=>c | none=>.skip
noncomputable def res7:List ResultVar:=Tryd.f7.results.toList
def L7:Nat→Option (List Nat):=fun r=>if r=12 then some [0,3,8,33] else none
noncomputable def J7_12 (t0 t3 t8 t33:Value) (h:AH) (Q:Res→AH→Prop):Prop:=wpC Tryd.prog L7 (cAt code7 [.r,.r,.l,.r,.i,.r,.r,.r,.r,.r,.r,.r]) (mkA 54 [(0,t0),(3,t3),(8,t8),(33,t33)]) h (ctxAt Tryd.prog L7 code7 [.r,.r,.l,.r,.i,.r,.r,.r,.r,.r,.r,.r] (retK Tryd.prog res7 Q))
noncomputable def K7_12 (t0 t3 t8 t33:Value) (h:AH) (Q:Res→AH→Prop):Prop:=(ctxAt Tryd.prog L7 code7 [.r,.r,.l,.r,.i,.r,.r,.r,.r,.r,.r,.l] (retK Tryd.prog res7 Q)) .normal (mkA 54 [(0,t0),(3,t3),(8,t8),(33,t33)]) h
theorem K7_12_eq (t0 t3 t8 t33:Value) (h:AH) (Q:Res→AH→Prop):J7_12 t0 t3 t8 t33 h Q=K7_12 t0 t3 t8 t33 h Q:=join_eq (p:=[.r,.r,.l,.r,.i,.r,.r,.r,.r,.r,.r]) (code:=code7) (by kernel_rfl) (by kernel_rfl)
noncomputable def X7_12 (t0 t3 t8 t33:Value) (h:AH) (Q:Res→AH→Prop):Prop :=
 condP (some t33)
 (let t36:Value:=t0
 bq (ldN 10 h t3) fun t37 =>
 HC Tryd.prog 14 (([]:List Value)++[t36,t37]++([]:List Value)).toArray h (resK (fun t38 h =>
 let t4:Value:=t38
 Q (.ret t4) h) (fun v h=>Q (.pan v) h)))
 (bq (binV Tryd.prog .eql 3 (.tmp 8) (.const (Value.int .i64 5)) t8 (Value.int .i64 5) h) fun t40 =>
 let t39:Value:=t40
 condP (some t39)
 (let t41:Value:=t0
 bq (ldN 10 h t3) fun t42 =>
 HC Tryd.prog 15 (([]:List Value)++[t41,t42]++([]:List Value)).toArray h (resK (fun t43 h =>
 let t4:Value:=t43
 Q (.ret t4) h) (fun v h=>Q (.pan v) h)))
 (bq (binV Tryd.prog .eql 3 (.tmp 8) (.const (Value.int .i64 6)) t8 (Value.int .i64 6) h) fun t45 =>
 let t44:Value:=t45
 condP (some t44)
 (let t46:Value:=t0
 bq (ldN 10 h t3) fun t47 =>
 HC Tryd.prog 16 (([]:List Value)++[t46,t47]++([]:List Value)).toArray h (resK (fun t48 h =>
 let t4:Value:=t48
 Q (.ret t4) h) (fun v h=>Q (.pan v) h)))
 (bq (binV Tryd.prog .eql 3 (.tmp 8) (.const (Value.int .i64 7)) t8 (Value.int .i64 7) h) fun t50 =>
 let t49:Value:=t50
 condP (some t49)
 (let t51:Value:=t0
 bq (ldN 10 h t3) fun t52 =>
 HC Tryd.prog 17 (([]:List Value)++[t51,t52]++([]:List Value)).toArray h (resK (fun t53 h =>
 let t4:Value:=t53
 Q (.ret t4) h) (fun v h=>Q (.pan v) h)))
 (let t4:Value:=(Value.int .i64 2)
 Q (.ret t4) h))))
theorem X7_12_eq (t0 t3 t8 t33:Value) (h:AH) (Q:Res→AH→Prop):X7_12 t0 t3 t8 t33 h Q=wpC Tryd.prog L7 (cAt code7 [.r,.r,.l,.r,.i,.r,.r,.r,.r,.r,.r,.r]) (mkA 54 [(0,t0),(3,t3),(8,t8),(33,t33)]) h (ctxAt Tryd.prog L7 code7 [.r,.r,.l,.r,.i,.r,.r,.r,.r,.r,.r,.r] (retK Tryd.prog res7 Q)):=by kernel_rfl
theorem X7_12_ok {t0 t3 t8 t33:Value} {h:AH} {Q:Res→AH→Prop} (H:X7_12 t0 t3 t8 t33 h Q):K7_12 t0 t3 t8 t33 h Q:=(K7_12_eq t0 t3 t8 t33 h Q).mp (((X7_12_eq t0 t3 t8 t33 h Q).mp H))
noncomputable def X7 (t0 t1:Value) (h:AH) (Q:Res→AH→Prop):Prop :=
 (fun t3 h =>
 let t4:Value:=(Value.int .i64 0)
 let t5:Value:=t0
 bq (binV Tryd.prog .eql 24 (.tmp 5) (.const (Value.pointer none)) t5 (Value.pointer none) h) fun t6 =>
 condP (some t6)
 (let t4:Value:=(Value.int .i64 2)
 Q (.ret t4) h)
 (bq (fa 0 1 t3) fun t7 =>
 bq (ld1 h t7) fun t8 =>
 bq (binV Tryd.prog .eql 3 (.tmp 8) (.const (Value.int .i64 1)) t8 (Value.int .i64 1) h) fun t10 =>
 let t9:Value:=t10
 condP (some t9)
 (let t11:Value:=t0
 bq (fa 1 1 t3) fun t12 =>
 bq (ld1 h t12) fun t13 =>
 HC Tryd.prog 11 (([]:List Value)++[(Value.int .i64 0)]++([]:List Value)).toArray h (resK (fun t14 h =>
 ((bq (ld1 h t12) fun u=>(u=t13))∧(True)) ∧
 bq (mi 51 t14) fun t15 =>
 HC Tryd.prog 12 (([]:List Value)++[t11,t13,t15]++([]:List Value)).toArray h (resK (fun t16 h =>
 (True) ∧
 let t4:Value:=t16
 Q (.ret t4) h) (fun v h=>Q (.pan v) h))) (fun v h=>Q (.pan v) h)))
 (bq (binV Tryd.prog .eql 3 (.tmp 8) (.const (Value.int .i64 2)) t8 (Value.int .i64 2) h) fun t18 =>
 let t17:Value:=t18
 condP (some t17)
 (let t19:Value:=t0
 bq (fa 1 1 t3) fun t20 =>
 bq (ld1 h t20) fun t21 =>
 bq (fa 3 1 t3) fun t22 =>
 bq (ld1 h t22) fun t23 =>
 bq (bd #[(Value.bool false),(Value.int .i64 0),(Value.slice none 0 0)] [(0,1,(Value.bool true)),(1,1,t23)]) fun t24 =>
 (fun t25 h =>
 bq (mi 56 t25) fun t26 =>
 HC Tryd.prog 12 (([]:List Value)++[t19,t21,t26]++([]:List Value)).toArray h (resK (fun t27 h =>
 let t4:Value:=t27
 Q (.ret t4) h) (fun v h=>Q (.pan v) h))) (opNew h 58 t24.cells).1 (opNew h 58 t24.cells).2)
 (bq (binV Tryd.prog .eql 3 (.tmp 8) (.const (Value.int .i64 3)) t8 (Value.int .i64 3) h) fun t29 =>
 let t28:Value:=t29
 condP (some t28)
 (let t30:Value:=t0
 bq (ldN 10 h t3) fun t31 =>
 HC Tryd.prog 13 (([]:List Value)++[t30,t31]++([]:List Value)).toArray h (resK (fun t32 h =>
 let t4:Value:=t32
 Q (.ret t4) h) (fun v h=>Q (.pan v) h)))
 (bq (binV Tryd.prog .eql 3 (.tmp 8) (.const (Value.int .i64 4)) t8 (Value.int .i64 4) h) fun t34 =>
 let t33:Value:=t34
 condP (some t33)
 (K7_12 t0 t3 t8 t33 h Q)
 (bq (binV Tryd.prog .eql 3 (.tmp 8) (.const (Value.int .i64 8)) t8 (Value.int .i64 8) h) fun t35 =>
 let t33:Value:=t35
 K7_12 t0 t3 t8 t33 h Q)))))) (opNew h 36 t1.cells).1 (opNew h 36 t1.cells).2
theorem X7_eq (t0 t1:Value) (h:AH) (Q:Res→AH→Prop):X7 t0 t1 h Q=wpC Tryd.prog L7 code7 (argA [t0,t1] Tryd.f7.ntmps) h (retK Tryd.prog res7 Q):=by kernel_rfl
theorem X7_body:Tryd.f7.body=some code7:=by kernel_rfl
theorem X7_ok {t0 t1:Value} {h:AH} {Q:Res→AH→Prop} (H:X7 t0 t1 h Q):HC Tryd.prog 7 [t0,t1].toArray h Q:=HC.body Tryd.func7 X7_body ((X7_eq t0 t1 h Q).mp H)
noncomputable def code8:Code:=match Tryd.f8.body with | some c=>c | none=>.skip
noncomputable def res8:List ResultVar:=Tryd.f8.results.toList
def L8:Nat→Option (List Nat):=fun r=>none
noncomputable def X8 (t0:Value) (h:AH) (Q:Res→AH→Prop):Prop :=
 (fun t1 h =>
 (fun t2 h =>
 bq (fa 0 1 t1) fun t3 =>
 bq (ld1 h t3) fun t4 =>
 bq (fa 3 1 t1) fun t5 =>
 bq (ld1 h t5) fun t6 =>
 bq (fa 4 1 t1) fun t7 =>
 bq (ld1 h t7) fun t8 =>
 bq (fa 1 1 t1) fun t9 =>
 bq (ld1 h t9) fun t10 =>
 bq (fa 5 5 t1) fun t11 =>
 bq (ldN 5 h t11) fun t12 =>
 bq (fa 2 1 t1) fun t13 =>
 bq (ld1 h t13) fun t14 =>
 bq (bd #[(Value.int .i64 0),(Value.string (ByteArray.mk #[])),(Value.string (ByteArray.mk #[])),(Value.int .i64 0),(Value.int .i64 0),(Value.int .i64 0),(Value.int .i64 0),(Value.int .i64 0),(Value.int .u32 0),(Value.int .i64 0)] [(0,1,t4),(1,1,t6),(2,1,t8),(3,1,t10),(4,5,t12),(9,1,t14)]) fun t15 =>
 bq (stN 10 h t2 t15) fun h=>(fun _ h =>
 bq (seqO [ldN 10 h t2]) fun vs=>Q (.ret (oneOf vs)) h) undef h) (opNew h 36 #[(Value.int .i64 0),(Value.string (ByteArray.mk #[])),(Value.string (ByteArray.mk #[])),(Value.int .i64 0),(Value.int .i64 0),(Value.int .i64 0),(Value.int .i64 0),(Value.int .i64 0),(Value.int .u32 0),(Value.int .i64 0)]).1 (opNew h 36 #[(Value.int .i64 0),(Value.string (ByteArray.mk #[])),(Value.string (ByteArray.mk #[])),(Value.int .i64 0),(Value.int .i64 0),(Value.int .i64 0),(Value.int .i64 0),(Value.int .i64 0),(Value.int .u32 0),(Value.int .i64 0)]).2) (opNew h 39 t0.cells).1 (opNew h 39 t0.cells).2
theorem X8_eq (t0:Value) (h:AH) (Q:Res→AH→Prop):X8 t0 h Q=wpC Tryd.prog L8 code8 (argA [t0] Tryd.f8.ntmps) h (retK Tryd.prog res8 Q):=by kernel_rfl
theorem X8_body:Tryd.f8.body=some code8:=by kernel_rfl
theorem X8_ok {t0:Value} {h:AH} {Q:Res→AH→Prop} (H:X8 t0 h Q):HC Tryd.prog 8 [t0].toArray h Q:=HC.body Tryd.func8 X8_body ((X8_eq t0 h Q).mp H)
noncomputable def code12:Code:=match Tryd.f12.body with | some c=>c | none=>.skip
noncomputable def res12:List ResultVar:=Tryd.f12.results.toList
def L12:Nat→Option (List Nat):=fun r=>if r=4 then some [2,7,8,9] else if r=6 then some [9] else none
noncomputable def J12_4 (t2 t7 t8 t9:Value) (h:AH) (Q:Res→AH→Prop):Prop:=wpC Tryd.prog L12 (cAt code12 [.r,.r,.r]) (mkA 28 [(2,t2),(7,t7),(8,t8),(9,t9)]) h (ctxAt Tryd.prog L12 code12 [.r,.r,.r] (retK Tryd.prog res12 Q))
noncomputable def K12_4 (t2 t7 t8 t9:Value) (h:AH) (Q:Res→AH→Prop):Prop:=(ctxAt Tryd.prog L12 code12 [.r,.r,.l] (retK Tryd.prog res12 Q)) .normal (mkA 28 [(2,t2),(7,t7),(8,t8),(9,t9)]) h
theorem K12_4_eq (t2 t7 t8 t9:Value) (h:AH) (Q:Res→AH→Prop):J12_4 t2 t7 t8 t9 h Q=K12_4 t2 t7 t8 t9 h Q:=join_eq (p:=[.r,.r]) (code:=code12) (by kernel_rfl) (by kernel_rfl)
noncomputable def J12_6 (t9:Value) (h:AH) (Q:Res→AH→Prop):Prop:=wpC Tryd.prog L12 (cAt code12 [.r,.r,.r,.r]) (mkA 28 [(9,t9)]) h (ctxAt Tryd.prog L12 code12 [.r,.r,.r,.r] (retK Tryd.prog res12 Q))
noncomputable def K12_6 (t9:Value) (h:AH) (Q:Res→AH→Prop):Prop:=(ctxAt Tryd.prog L12 code12 [.r,.r,.r,.l] (retK Tryd.prog res12 Q)) .normal (mkA 28 [(9,t9)]) h
theorem K12_6_eq (t9:Value) (h:AH) (Q:Res→AH→Prop):J12_6 t9 h Q=K12_6 t9 h Q:=join_eq (p:=[.r,.r,.r]) (code:=code12) (by kernel_rfl) (by kernel_rfl)
noncomputable def X12_6 (t9:Value) (h:AH) (Q:Res→AH→Prop):Prop :=
 let t27:Value:=t9
 let t6:Value:=t27
 Q (.ret t6) h
theorem X12_6_eq (t9:Value) (h:AH) (Q:Res→AH→Prop):X12_6 t9 h Q=wpC Tryd.prog L12 (cAt code12 [.r,.r,.r,.r]) (mkA 28 [(9,t9)]) h (ctxAt Tryd.prog L12 code12 [.r,.r,.r,.r] (retK Tryd.prog res12 Q)):=by kernel_rfl
theorem X12_6_ok {t9:Value} {h:AH} {Q:Res→AH→Prop} (H:X12_6 t9 h Q):K12_6 t9 h Q:=(K12_6_eq t9 h Q).mp (((X12_6_eq t9 h Q).mp H))
noncomputable def X12_4 (t2 t7 t8 t9:Value) (h:AH) (Q:Res→AH→Prop):Prop :=
 let t21:Value:=t9
 bq (binV Tryd.prog .eql 28 (.tmp 21) (.const (Value.int .i64 0)) t21 (Value.int .i64 0) h) fun t22 =>
 condP (some t22)
 (let t23:Value:=t7
 let t24:Value:=t8
 let t25:Value:=t2
 HC Tryd.prog 23 (([]:List Value)++[t23,t24,t25]++([]:List Value)).toArray h (resK (fun t26 h =>
 K12_6 t9 h Q) (fun v h=>Q (.pan v) h)))
 (K12_6 t9 h Q)
theorem X12_4_eq (t2 t7 t8 t9:Value) (h:AH) (Q:Res→AH→Prop):X12_4 t2 t7 t8 t9 h Q=wpC Tryd.prog L12 (cAt code12 [.r,.r,.r]) (mkA 28 [(2,t2),(7,t7),(8,t8),(9,t9)]) h (ctxAt Tryd.prog L12 code12 [.r,.r,.r] (retK Tryd.prog res12 Q)):=by kernel_rfl
theorem X12_4_ok {t2 t7 t8 t9:Value} {h:AH} {Q:Res→AH→Prop} (H:X12_4 t2 t7 t8 t9 h Q):K12_4 t2 t7 t8 t9 h Q:=(K12_4_eq t2 t7 t8 t9 h Q).mp (((X12_4_eq t2 t7 t8 t9 h Q).mp H))
noncomputable def X12 (t0 t1 t2:Value) (h:AH) (Q:Res→AH→Prop):Prop :=
 let t6:Value:=(Value.int .i64 0)
 let t11:Value:=t0
 let t12:Value:=t1
 HC Tryd.prog 21 (([]:List Value)++[t11,t12]++([]:List Value)).toArray h (resK (fun t13 h =>
 let t10:Value:=t13
 bq (opExtract t10 0) fun t14 =>
 bq (opExtract t10 1) fun t15 =>
 bq (opExtract t10 2) fun t16 =>
 let t7:Value:=t14
 let t8:Value:=t15
 let t9:Value:=t16
 let t17:Value:=t9
 bq (binV Tryd.prog .eql 28 (.tmp 17) (.const (Value.int .i64 0)) t17 (Value.int .i64 0) h) fun t18 =>
 condP (some t18)
 (let t19:Value:=t7
 HC Tryd.prog 22 (([]:List Value)++[t19,(Value.int .i64 1)]++([]:List Value)).toArray h (resK (fun t20 h =>
 let t9:Value:=t20
 K12_4 t2 t7 t8 t9 h Q) (fun v h=>Q (.pan v) h)))
 (K12_4 t2 t7 t8 t9 h Q)) (fun v h=>Q (.pan v) h))
theorem X12_eq (t0 t1 t2:Value) (h:AH) (Q:Res→AH→Prop):X12 t0 t1 t2 h Q=wpC Tryd.prog L12 code12 (argA [t0,t1,t2] Tryd.f12.ntmps) h (retK Tryd.prog res12 Q):=by kernel_rfl
theorem X12_body:Tryd.f12.body=some code12:=by kernel_rfl
theorem X12_ok {t0 t1 t2:Value} {h:AH} {Q:Res→AH→Prop} (H:X12 t0 t1 t2 h Q):HC Tryd.prog 12 [t0,t1,t2].toArray h Q:=HC.body Tryd.func12 X12_body ((X12_eq t0 t1 t2 h Q).mp H)
noncomputable def code13:Code:=match Tryd.f13.body with | some c=>c | none=>.skip
noncomputable def res13:List ResultVar:=Tryd.f13.results.toList
def L13:Nat→Option (List Nat):=fun r=>none
noncomputable def X13 (t0 t1:Value) (h:AH) (Q:Res→AH→Prop):Prop :=
 (fun t3 h =>
 let t4:Value:=(Value.int .i64 0)
 let t8:Value:=t0
 bq (fa 1 1 t3) fun t9 =>
 bq (ld1 h t9) fun t10 =>
 bq (fa 3 1 t3) fun t11 =>
 bq (ld1 h t11) fun t12 =>
 HC Tryd.prog 24 (([]:List Value)++[t8,t10,t12,(Value.bool false)]++([]:List Value)).toArray h (resK (fun t13 h =>
 let t7:Value:=t13
 bq (opExtract t7 0) fun t14 =>
 bq (opExtract t7 1) fun t15 =>
 let t5:Value:=t14
 let t6:Value:=t15
 let t17:Value:=t6
 bq (binV Tryd.prog .neq 28 (.tmp 17) (.const (Value.int .i64 0)) t17 (Value.int .i64 0) h) fun t18 =>
 let t16:Value:=t18
 condP (some t16)
 (let t19:Value:=t6
 let t4:Value:=t19
 Q (.ret t4) h)
 (bq (fa 4 5 t3) fun t21 =>
 bq (ldN 5 h t21) fun t22 =>
 HC Tryd.prog 25 (([]:List Value)++[t22]++([]:List Value)).toArray h (resK (fun t23 h =>
 bq (unV Tryd.prog .not t23) fun t24 =>
 let t20:Value:=t24
 condP (some t20)
 (let t4:Value:=(Value.int .i64 2)
 Q (.ret t4) h)
 (let t26:Value:=t5
 bq (nilV Tryd.prog t26) fun t27 =>
 bq (fa 2 1 t27) fun t28 =>
 bq (ld1 h t28) fun t29 =>
 bq (lenL t29) fun t30 =>
 bq (binV Tryd.prog .geq 3 (.tmp 30) (.const (Value.int .i64 1024)) t30 (Value.int .i64 1024) h) fun t31 =>
 let t25:Value:=t31
 condP (some t25)
 (let t4:Value:=(Value.int .i64 1)
 Q (.ret t4) h)
 (let t32:Value:=t5
 let t33:Value:=t5
 bq (nilV Tryd.prog t33) fun t34 =>
 bq (fa 2 1 t34) fun t35 =>
 bq (ld1 h t35) fun t36 =>
 bq (fa 4 5 t3) fun t37 =>
 bq (ldN 5 h t37) fun t38 =>
 bq (bs 34 #[(Value.int .i64 0),(Value.int .i64 0),(Value.int .i64 0),(Value.int .i64 0),(Value.int .u32 0)] 1 h [(0,5,t38)]) fun r=>(fun t39 h =>
 ((bq (ld1 h t35) fun u=>(u=t36))∧(True)) ∧
 bq (apT 34 5 40 (some (Value.agg #[(Value.int .i64 0),(Value.int .i64 0),(Value.int .i64 0),(Value.int .i64 0),(Value.int .u32 0)])) h t36 t39) fun r=>(fun t40 h =>
 (True) ∧
 bq (nilV Tryd.prog t32) fun t41 =>
 bq (fa 2 1 t41) fun t42 =>
 bq (stN 1 h t42 t40) fun h=>(fun q8_11 h =>
 (True) ∧
 let t4:Value:=(Value.int .i64 0)
 Q (.ret t4) h) undef h) r.1 r.2) r.1 r.2))) (fun v h=>Q (.pan v) h)))) (fun v h=>Q (.pan v) h))) (opNew h 36 t1.cells).1 (opNew h 36 t1.cells).2
theorem X13_eq (t0 t1:Value) (h:AH) (Q:Res→AH→Prop):X13 t0 t1 h Q=wpC Tryd.prog L13 code13 (argA [t0,t1] Tryd.f13.ntmps) h (retK Tryd.prog res13 Q):=by kernel_rfl
theorem X13_body:Tryd.f13.body=some code13:=by kernel_rfl
theorem X13_ok {t0 t1:Value} {h:AH} {Q:Res→AH→Prop} (H:X13 t0 t1 h Q):HC Tryd.prog 13 [t0,t1].toArray h Q:=HC.body Tryd.func13 X13_body ((X13_eq t0 t1 h Q).mp H)
noncomputable def code14:Code:=match Tryd.f14.body with | some c=>c | none=>.skip
noncomputable def res14:List ResultVar:=Tryd.f14.results.toList
def L14:Nat→Option (List Nat):=fun r=>if r=4 then some [6] else none
noncomputable def J14_4 (t6:Value) (h:AH) (Q:Res→AH→Prop):Prop:=wpC Tryd.prog L14 (cAt code14 [.r,.r,.r]) (mkA 28 [(6,t6)]) h (ctxAt Tryd.prog L14 code14 [.r,.r,.r] (retK Tryd.prog res14 Q))
noncomputable def K14_4 (t6:Value) (h:AH) (Q:Res→AH→Prop):Prop:=(ctxAt Tryd.prog L14 code14 [.r,.r,.l] (retK Tryd.prog res14 Q)) .normal (mkA 28 [(6,t6)]) h
theorem K14_4_eq (t6:Value) (h:AH) (Q:Res→AH→Prop):J14_4 t6 h Q=K14_4 t6 h Q:=join_eq (p:=[.r,.r]) (code:=code14) (by kernel_rfl) (by kernel_rfl)
noncomputable def X14_4 (t6:Value) (h:AH) (Q:Res→AH→Prop):Prop :=
 let t27:Value:=t6
 let t4:Value:=t27
 Q (.ret t4) h
theorem X14_4_eq (t6:Value) (h:AH) (Q:Res→AH→Prop):X14_4 t6 h Q=wpC Tryd.prog L14 (cAt code14 [.r,.r,.r]) (mkA 28 [(6,t6)]) h (ctxAt Tryd.prog L14 code14 [.r,.r,.r] (retK Tryd.prog res14 Q)):=by kernel_rfl
theorem X14_4_ok {t6:Value} {h:AH} {Q:Res→AH→Prop} (H:X14_4 t6 h Q):K14_4 t6 h Q:=(K14_4_eq t6 h Q).mp (((X14_4_eq t6 h Q).mp H))
noncomputable def X14 (t0 t1:Value) (h:AH) (Q:Res→AH→Prop):Prop :=
 (fun t3 h =>
 let t4:Value:=(Value.int .i64 0)
 let t8:Value:=t0
 bq (fa 1 1 t3) fun t9 =>
 bq (ld1 h t9) fun t10 =>
 bq (fa 3 1 t3) fun t11 =>
 bq (ld1 h t11) fun t12 =>
 bq (fa 0 1 t3) fun t13 =>
 bq (ld1 h t13) fun t14 =>
 bq (binV Tryd.prog .eql 3 (.tmp 14) (.const (Value.int .i64 8)) t14 (Value.int .i64 8) h) fun t15 =>
 HC Tryd.prog 24 (([]:List Value)++[t8,t10,t12,t15]++([]:List Value)).toArray h (resK (fun t16 h =>
 let t7:Value:=t16
 bq (opExtract t7 0) fun t17 =>
 bq (opExtract t7 1) fun t18 =>
 let t5:Value:=t17
 let t6:Value:=t18
 let t19:Value:=t6
 bq (binV Tryd.prog .eql 28 (.tmp 19) (.const (Value.int .i64 0)) t19 (Value.int .i64 0) h) fun t20 =>
 condP (some t20)
 (let t21:Value:=t5
 let t22:Value:=t5
 bq (nilV Tryd.prog t21) fun t23 =>
 bq (fa 0 1 t23) fun t24 =>
 bq (stN 1 h t24 (Value.bool false)) fun h=>(fun _ h =>
 bq (nilV Tryd.prog t22) fun t25 =>
 bq (fa 1 1 t25) fun t26 =>
 bq (stN 1 h t26 (Value.int .i64 0)) fun h=>(fun _ h =>
 K14_4 t6 h Q) undef h) undef h)
 (K14_4 t6 h Q)) (fun v h=>Q (.pan v) h))) (opNew h 36 t1.cells).1 (opNew h 36 t1.cells).2
theorem X14_eq (t0 t1:Value) (h:AH) (Q:Res→AH→Prop):X14 t0 t1 h Q=wpC Tryd.prog L14 code14 (argA [t0,t1] Tryd.f14.ntmps) h (retK Tryd.prog res14 Q):=by kernel_rfl
theorem X14_body:Tryd.f14.body=some code14:=by kernel_rfl
theorem X14_ok {t0 t1:Value} {h:AH} {Q:Res→AH→Prop} (H:X14 t0 t1 h Q):HC Tryd.prog 14 [t0,t1].toArray h Q:=HC.body Tryd.func14 X14_body ((X14_eq t0 t1 h Q).mp H)
noncomputable def code15:Code:=match Tryd.f15.body with | some c=>c | none=>.skip
noncomputable def res15:List ResultVar:=Tryd.f15.results.toList
def L15:Nat→Option (List Nat):=fun r=>if r=7 then some [6] else none
noncomputable def J15_7 (t6:Value) (h:AH) (Q:Res→AH→Prop):Prop:=wpC Tryd.prog L15 (cAt code15 [.r,.r,.r,.r,.r]) (mkA 33 [(6,t6)]) h (ctxAt Tryd.prog L15 code15 [.r,.r,.r,.r,.r] (retK Tryd.prog res15 Q))
noncomputable def K15_7 (t6:Value) (h:AH) (Q:Res→AH→Prop):Prop:=(ctxAt Tryd.prog L15 code15 [.r,.r,.r,.r,.l] (retK Tryd.prog res15 Q)) .normal (mkA 33 [(6,t6)]) h
theorem K15_7_eq (t6:Value) (h:AH) (Q:Res→AH→Prop):J15_7 t6 h Q=K15_7 t6 h Q:=join_eq (p:=[.r,.r,.r,.r]) (code:=code15) (by kernel_rfl) (by kernel_rfl)
noncomputable def X15_7 (t6:Value) (h:AH) (Q:Res→AH→Prop):Prop :=
 let t32:Value:=t6
 let t4:Value:=t32
 Q (.ret t4) h
theorem X15_7_eq (t6:Value) (h:AH) (Q:Res→AH→Prop):X15_7 t6 h Q=wpC Tryd.prog L15 (cAt code15 [.r,.r,.r,.r,.r]) (mkA 33 [(6,t6)]) h (ctxAt Tryd.prog L15 code15 [.r,.r,.r,.r,.r] (retK Tryd.prog res15 Q)):=by kernel_rfl
theorem X15_7_ok {t6:Value} {h:AH} {Q:Res→AH→Prop} (H:X15_7 t6 h Q):K15_7 t6 h Q:=(K15_7_eq t6 h Q).mp (((X15_7_eq t6 h Q).mp H))
noncomputable def X15 (t0 t1:Value) (h:AH) (Q:Res→AH→Prop):Prop :=
 (fun t3 h =>
 let t4:Value:=(Value.int .i64 0)
 bq (fa 1 1 t3) fun t10 =>
 bq (ld1 h t10) fun t11 =>
 HC Tryd.prog 26 (([]:List Value)++[t11]++([]:List Value)).toArray h (resK (fun t12 h =>
 let t9:Value:=t12
 bq (opExtract t9 0) fun t13 =>
 bq (opExtract t9 1) fun t14 =>
 let t5:Value:=t13
 let t6:Value:=t14
 let t15:Value:=t6
 bq (binV Tryd.prog .neq 28 (.tmp 15) (.const (Value.int .i64 0)) t15 (Value.int .i64 0) h) fun t16 =>
 condP (some t16)
 (let t17:Value:=t6
 let t4:Value:=t17
 Q (.ret t4) h)
 (let t19:Value:=t0
 bq (fa 1 1 t3) fun t20 =>
 bq (ld1 h t20) fun t21 =>
 HC Tryd.prog 19 (([]:List Value)++[t19,t21]++([]:List Value)).toArray h (resK (fun t22 h =>
 let t18:Value:=t22
 bq (opExtract t18 0) fun t23 =>
 bq (opExtract t18 1) fun t24 =>
 bq (opExtract t18 2) fun t25 =>
 let t7:Value:=t23
 let t8:Value:=t24
 let t6:Value:=t25
 let t26:Value:=t6
 bq (binV Tryd.prog .eql 28 (.tmp 26) (.const (Value.int .i64 0)) t26 (Value.int .i64 0) h) fun t27 =>
 condP (some t27)
 (let t28:Value:=t7
 let t29:Value:=t5
 let t30:Value:=t8
 HC Tryd.prog 27 (([]:List Value)++[t28,t29,t30]++([]:List Value)).toArray h (resK (fun t31 h =>
 K15_7 t6 h Q) (fun v h=>Q (.pan v) h)))
 (K15_7 t6 h Q)) (fun v h=>Q (.pan v) h)))) (fun v h=>Q (.pan v) h))) (opNew h 36 t1.cells).1 (opNew h 36 t1.cells).2
theorem X15_eq (t0 t1:Value) (h:AH) (Q:Res→AH→Prop):X15 t0 t1 h Q=wpC Tryd.prog L15 code15 (argA [t0,t1] Tryd.f15.ntmps) h (retK Tryd.prog res15 Q):=by kernel_rfl
theorem X15_body:Tryd.f15.body=some code15:=by kernel_rfl
theorem X15_ok {t0 t1:Value} {h:AH} {Q:Res→AH→Prop} (H:X15 t0 t1 h Q):HC Tryd.prog 15 [t0,t1].toArray h Q:=HC.body Tryd.func15 X15_body ((X15_eq t0 t1 h Q).mp H)
noncomputable def code16:Code:=match Tryd.f16.body with | some c=>c | none=>.skip
noncomputable def res16:List ResultVar:=Tryd.f16.results.toList
def L16:Nat→Option (List Nat):=fun r=>if r=14 then some [3,5,9,10,11,12,63,64,65] else if r=22 then some [5,9,10,11,12,15] else none
noncomputable def H16_14 (t3 t5 t9 t10 t11 t12 t63 t64 t65:Value) (h:AH) (Q:Res→AH→Prop):Prop:=HL Tryd.prog (cAt code16 [.r,.r,.r,.r,.r,.r,.r,.r,.l,.r,.i,.i]) (mkA 130 [(3,t3),(5,t5),(9,t9),(10,t10),(11,t11),(12,t12),(63,t63),(64,t64),(65,t65)]) h (ctxAt Tryd.prog L16 code16 [.r,.r,.r,.r,.r,.r,.r,.r,.l,.r,.i] (retK Tryd.prog res16 Q))
noncomputable def H16_22 (t5 t9 t10 t11 t12 t15:Value) (h:AH) (Q:Res→AH→Prop):Prop:=HL Tryd.prog (cAt code16 [.r,.r,.r,.r,.r,.r,.r,.r,.r,.r,.r,.l,.i,.i]) (mkA 130 [(5,t5),(9,t9),(10,t10),(11,t11),(12,t12),(15,t15)]) h (ctxAt Tryd.prog L16 code16 [.r,.r,.r,.r,.r,.r,.r,.r,.r,.r,.r,.l,.i] (retK Tryd.prog res16 Q))
noncomputable def X16_22 (t5 t9 t10 t11 t12 t15:Value) (h:AH) (Q:Res→AH→Prop):Prop :=
 let t90:Value:=t15
 let t91:Value:=t9
 bq (lenL t91) fun t92 =>
 bq (binV Tryd.prog .lss 3 (.tmp 90) (.tmp 92) t90 t92 h) fun t93 =>
 let t94:Value:=t93
 guardQ t94 true h (fun k=>k t15 h) fun t95 h =>
 guardQ t94 true h (fun k=>k t11 h) fun t96 h =>
 guardQ t94 true h (fun k=>bq (lenL t96) fun v=>k v h) fun t97 h =>
 guardQ t94 true h (fun k=>bq (binV Tryd.prog .lss 3 (.tmp 95) (.tmp 97) t95 t97 h) fun v=>k v h) fun t98 h =>
 bq (pickV t94 t98 (Value.bool false)) fun t99 =>
 let t100:Value:=t99
 guardQ t100 true h (fun k=>k t9 h) fun t101 h =>
 guardQ t100 true h (fun k=>k t15 h) fun t102 h =>
 guardQ t100 true h (fun k=>bq (ia 1 t101 t102) fun v=>k v h) fun t103 h =>
 guardQ t100 true h (fun k=>bq (ld1 h t103) fun v=>k v h) fun t104 h =>
 guardQ t100 true h (fun k=>k t11 h) fun t105 h =>
 guardQ t100 true h (fun k=>k t15 h) fun t106 h =>
 guardQ t100 true h (fun k=>bq (ia 1 t105 t106) fun v=>k v h) fun t107 h =>
 guardQ t100 true h (fun k=>bq (ld1 h t107) fun v=>k v h) fun t108 h =>
 guardQ t100 true h (fun k=>bq (binV Tryd.prog .eql 51 (.tmp 104) (.tmp 108) t104 t108 h) fun v=>k v h) fun t109 h =>
 bq (pickV t100 t109 (Value.bool false)) fun t110 =>
 condP (some t110)
 (let t111:Value:=t15
 bq (binV Tryd.prog .add 3 (.tmp 111) (.const (Value.int .i64 1)) t111 (Value.int .i64 1) h) fun t112 =>
 let t15:Value:=t112
 H16_22 t5 t9 t10 t11 t12 t15 h Q)
 (let t113:Value:=t11
 let t114:Value:=t15
 bq (sliceV Tryd.prog h 60 t113 (some t114) none) fun t115 =>
 let t116:Value:=t10
 invokeP Tryd.prog t116 "mahout/tree.weight" [] h (fun t117 h =>
 ((bq (sliceV Tryd.prog h 60 t113 (some t114) none) fun u=>(u=t115))∧(True)) ∧
 HC Tryd.prog 22 (([]:List Value)++[t115,t117]++([]:List Value)).toArray h (resK (fun t118 h =>
 (True) ∧
 let t16:Value:=t118
 let t119:Value:=t16
 bq (binV Tryd.prog .neq 28 (.tmp 119) (.const (Value.int .i64 0)) t119 (Value.int .i64 0) h) fun t120 =>
 condP (some t120)
 (let t121:Value:=t16
 let t4:Value:=t121
 Q (.ret t4) h)
 (let t122:Value:=t9
 let t123:Value:=t5
 let t124:Value:=t10
 HC Tryd.prog 27 (([]:List Value)++[t122,t123,t124]++([]:List Value)).toArray h (resK (fun t125 h =>
 let t126:Value:=t11
 let t127:Value:=t12
 let t128:Value:=t10
 HC Tryd.prog 23 (([]:List Value)++[t126,t127,t128]++([]:List Value)).toArray h (resK (fun t129 h =>
 let t4:Value:=(Value.int .i64 0)
 Q (.ret t4) h) (fun v h=>Q (.pan v) h))) (fun v h=>Q (.pan v) h)))) (fun v h=>Q (.pan v) h))) (fun v h=>Q (.pan v) h))
theorem X16_22_eq (t5 t9 t10 t11 t12 t15:Value) (h:AH) (Q:Res→AH→Prop):X16_22 t5 t9 t10 t11 t12 t15 h Q=wpC Tryd.prog L16 (cAt code16 [.r,.r,.r,.r,.r,.r,.r,.r,.r,.r,.r,.l,.i,.i]) (mkA 130 [(5,t5),(9,t9),(10,t10),(11,t11),(12,t12),(15,t15)]) h (ctxAt Tryd.prog L16 code16 [.r,.r,.r,.r,.r,.r,.r,.r,.r,.r,.r,.l,.i,.i] (retK Tryd.prog res16 Q)):=by kernel_rfl
theorem X16_22_ok {t5 t9 t10 t11 t12 t15:Value} {h:AH} {Q:Res→AH→Prop} (H:X16_22 t5 t9 t10 t11 t12 t15 h Q):H16_22 t5 t9 t10 t11 t12 t15 h Q:=HL.step (L:=L16) ((X16_22_eq t5 t9 t10 t11 t12 t15 h Q).mp H)
noncomputable def X16_14 (t3 t5 t9 t10 t11 t12 t63 t64 t65:Value) (h:AH) (Q:Res→AH→Prop):Prop :=
 bq (binV Tryd.prog .lss 3 (.tmp 65) (.tmp 64) t65 t64 h) fun t66 =>
 condP (some t66)
 (bq (ia 6 t63 t65) fun t67 =>
 bq (ldN 6 h t67) fun t68 =>
 (fun t14 h =>
 bq (stN 6 h t14 t68) fun h=>(fun _ h =>
 bq (fa 0 1 t14) fun t69 =>
 bq (ld1 h t69) fun t70 =>
 bq (fa 1 1 t3) fun t71 =>
 bq (ld1 h t71) fun t72 =>
 HC Tryd.prog 28 (([]:List Value)++[t70,t72]++([]:List Value)).toArray h (resK (fun t73 h =>
 (True) ∧
 let t74:Value:=t73
 guardQ t74 true h (fun k=>bq (fa 2 1 t3) fun v=>k v h) fun t75 h =>
 guardQ t74 true h (fun k=>bq (ld1 h t75) fun v=>k v h) fun t76 h =>
 guardQ t74 true h (fun k=>bq (fa 0 1 t14) fun v=>k v h) fun t77 h =>
 guardQ t74 true h (fun k=>bq (ld1 h t77) fun v=>k v h) fun t78 h =>
 guardQ t74 true h (fun k=>bq (fa 1 1 t3) fun v=>k v h) fun t79 h =>
 guardQ t74 true h (fun k=>bq (ld1 h t79) fun v=>k v h) fun t80 h =>
 guardQ t74 true h (fun k=>bq (lenS t80) fun v=>k v h) fun t81 h =>
 guardQ t74 true h (fun k=>bq (sliceV Tryd.prog h 9 t78 (some t81) none) fun v=>k v h) fun t82 h =>
 guardQ t74 true h (fun k=>bq (binV Tryd.prog .add 9 (.tmp 76) (.tmp 82) t76 t82 h) fun v=>k v h) fun t83 h =>
 guardQ t74 true h (fun k=>HC Tryd.prog 29 (([]:List Value)++[t83]++([]:List Value)).toArray h (resK k (fun v h=>Q (.pan v) h))) fun t84 h =>
 (True) ∧
 guardQ t74 true h (fun k=>bq (binV Tryd.prog .neq 28 (.tmp 84) (.const (Value.int .i64 0)) t84 (Value.int .i64 0) h) fun v=>k v h) fun t85 h =>
 bq (pickV t74 t85 (Value.bool false)) fun t86 =>
 condP (some t86)
 (let t4:Value:=(Value.int .i64 60)
 Q (.ret t4) h)
 (bq (binV Tryd.prog .add 3 (.tmp 65) (.const (Value.int .i64 1)) t65 (Value.int .i64 1) h) fun t87 =>
 let t65:Value:=t87
 H16_14 t3 t5 t9 t10 t11 t12 t63 t64 t65 h Q)) (fun v h=>Q (.pan v) h))) undef h) (opNew h 44 #[(Value.string (ByteArray.mk #[])),(Value.bool false),(Value.bool false),(Value.int .i64 0),(Value.int .i64 0),(Value.slice none 0 0)]).1 (opNew h 44 #[(Value.string (ByteArray.mk #[])),(Value.bool false),(Value.bool false),(Value.int .i64 0),(Value.int .i64 0),(Value.slice none 0 0)]).2)
 (let t88:Value:=t10
 invokeP Tryd.prog t88 "mahout/tree.opened" [] h (fun t89 h =>
 condP (some t89)
 (let t4:Value:=(Value.int .i64 76)
 Q (.ret t4) h)
 (let t15:Value:=(Value.int .i64 0)
 H16_22 t5 t9 t10 t11 t12 t15 h Q)) (fun v h=>Q (.pan v) h))
theorem X16_14_eq (t3 t5 t9 t10 t11 t12 t63 t64 t65:Value) (h:AH) (Q:Res→AH→Prop):X16_14 t3 t5 t9 t10 t11 t12 t63 t64 t65 h Q=wpC Tryd.prog L16 (cAt code16 [.r,.r,.r,.r,.r,.r,.r,.r,.l,.r,.i,.i]) (mkA 130 [(3,t3),(5,t5),(9,t9),(10,t10),(11,t11),(12,t12),(63,t63),(64,t64),(65,t65)]) h (ctxAt Tryd.prog L16 code16 [.r,.r,.r,.r,.r,.r,.r,.r,.l,.r,.i,.i] (retK Tryd.prog res16 Q)):=by kernel_rfl
theorem X16_14_ok {t3 t5 t9 t10 t11 t12 t63 t64 t65:Value} {h:AH} {Q:Res→AH→Prop} (H:X16_14 t3 t5 t9 t10 t11 t12 t63 t64 t65 h Q):H16_14 t3 t5 t9 t10 t11 t12 t63 t64 t65 h Q:=HL.step (L:=L16) ((X16_14_eq t3 t5 t9 t10 t11 t12 t63 t64 t65 h Q).mp H)
noncomputable def X16 (t0 t1:Value) (h:AH) (Q:Res→AH→Prop):Prop :=
 (fun t3 h =>
 let t4:Value:=(Value.int .i64 0)
 bq (fa 1 1 t3) fun t18 =>
 bq (ld1 h t18) fun t19 =>
 HC Tryd.prog 26 (([]:List Value)++[t19]++([]:List Value)).toArray h (resK (fun t20 h =>
 let t17:Value:=t20
 bq (opExtract t17 0) fun t21 =>
 bq (opExtract t17 1) fun t22 =>
 let t5:Value:=t21
 let t6:Value:=t22
 bq (fa 2 1 t3) fun t24 =>
 bq (ld1 h t24) fun t25 =>
 HC Tryd.prog 26 (([]:List Value)++[t25]++([]:List Value)).toArray h (resK (fun t26 h =>
 let t23:Value:=t26
 bq (opExtract t23 0) fun t27 =>
 bq (opExtract t23 1) fun t28 =>
 let t7:Value:=t27
 let t8:Value:=t28
 let t29:Value:=t6
 bq (binV Tryd.prog .neq 28 (.tmp 29) (.const (Value.int .i64 0)) t29 (Value.int .i64 0) h) fun t30 =>
 let t31:Value:=t30
 guardQ t31 false h (fun k=>k t8 h) fun t32 h =>
 guardQ t31 false h (fun k=>bq (binV Tryd.prog .neq 28 (.tmp 32) (.const (Value.int .i64 0)) t32 (Value.int .i64 0) h) fun v=>k v h) fun t33 h =>
 bq (pickV t31 (Value.bool true) t33) fun t34 =>
 condP (some t34)
 (let t4:Value:=(Value.int .i64 60)
 Q (.ret t4) h)
 (let t36:Value:=t0
 bq (fa 1 1 t3) fun t37 =>
 bq (ld1 h t37) fun t38 =>
 HC Tryd.prog 19 (([]:List Value)++[t36,t38]++([]:List Value)).toArray h (resK (fun t39 h =>
 let t35:Value:=t39
 bq (opExtract t35 0) fun t40 =>
 bq (opExtract t35 1) fun t41 =>
 bq (opExtract t35 2) fun t42 =>
 let t9:Value:=t40
 let t10:Value:=t41
 let t6:Value:=t42
 let t43:Value:=t6
 bq (binV Tryd.prog .neq 28 (.tmp 43) (.const (Value.int .i64 0)) t43 (Value.int .i64 0) h) fun t44 =>
 condP (some t44)
 (let t45:Value:=t6
 let t4:Value:=t45
 Q (.ret t4) h)
 (bq (fa 2 1 t3) fun t46 =>
 bq (ld1 h t46) fun t47 =>
 bq (fa 1 1 t3) fun t48 =>
 bq (ld1 h t48) fun t49 =>
 HC Tryd.prog 28 (([]:List Value)++[t47,t49]++([]:List Value)).toArray h (resK (fun t50 h =>
 condP (some t50)
 (let t4:Value:=(Value.int .i64 77)
 Q (.ret t4) h)
 (let t52:Value:=t0
 bq (fa 2 1 t3) fun t53 =>
 bq (ld1 h t53) fun t54 =>
 HC Tryd.prog 21 (([]:List Value)++[t52,t54]++([]:List Value)).toArray h (resK (fun t55 h =>
 let t51:Value:=t55
 bq (opExtract t51 0) fun t56 =>
 bq (opExtract t51 1) fun t57 =>
 bq (opExtract t51 2) fun t58 =>
 let t11:Value:=t56
 let t12:Value:=t57
 let t6:Value:=t58
 let t59:Value:=t6
 bq (binV Tryd.prog .neq 28 (.tmp 59) (.const (Value.int .i64 0)) t59 (Value.int .i64 0) h) fun t60 =>
 condP (some t60)
 (let t61:Value:=t6
 let t4:Value:=t61
 Q (.ret t4) h)
 (let t62:Value:=t0
 HC Tryd.prog 9 (([]:List Value)++[t62]++([]:List Value)).toArray h (resK (fun t63 h =>
 bq (lenL t63) fun t64 =>
 let t65:Value:=(Value.int .i64 0)
 H16_14 t3 t5 t9 t10 t11 t12 t63 t64 t65 h Q) (fun v h=>Q (.pan v) h)))) (fun v h=>Q (.pan v) h)))) (fun v h=>Q (.pan v) h)))) (fun v h=>Q (.pan v) h)))) (fun v h=>Q (.pan v) h))) (fun v h=>Q (.pan v) h))) (opNew h 36 t1.cells).1 (opNew h 36 t1.cells).2
theorem X16_eq (t0 t1:Value) (h:AH) (Q:Res→AH→Prop):X16 t0 t1 h Q=wpC Tryd.prog L16 code16 (argA [t0,t1] Tryd.f16.ntmps) h (retK Tryd.prog res16 Q):=by kernel_rfl
theorem X16_body:Tryd.f16.body=some code16:=by kernel_rfl
theorem X16_ok {t0 t1:Value} {h:AH} {Q:Res→AH→Prop} (H:X16 t0 t1 h Q):HC Tryd.prog 16 [t0,t1].toArray h Q:=HC.body Tryd.func16 X16_body ((X16_eq t0 t1 h Q).mp H)
noncomputable def code17:Code:=match Tryd.f17.body with | some c=>c | none=>.skip
noncomputable def res17:List ResultVar:=Tryd.f17.results.toList
def L17:Nat→Option (List Nat):=fun r=>none
noncomputable def X17 (t0 t1:Value) (h:AH) (Q:Res→AH→Prop):Prop :=
 (fun t3 h =>
 let t4:Value:=(Value.int .i64 0)
 let t11:Value:=t0
 bq (fa 1 1 t3) fun t12 =>
 bq (ld1 h t12) fun t13 =>
 HC Tryd.prog 19 (([]:List Value)++[t11,t13]++([]:List Value)).toArray h (resK (fun t14 h =>
 let t10:Value:=t14
 bq (opExtract t10 0) fun t15 =>
 bq (opExtract t10 1) fun t16 =>
 bq (opExtract t10 2) fun t17 =>
 let t5:Value:=t15
 let t6:Value:=t16
 let t7:Value:=t17
 let t18:Value:=t7
 bq (binV Tryd.prog .neq 28 (.tmp 18) (.const (Value.int .i64 0)) t18 (Value.int .i64 0) h) fun t19 =>
 condP (some t19)
 (let t20:Value:=t7
 let t4:Value:=t20
 Q (.ret t4) h)
 (let t22:Value:=t6
 bq (opTypeAssert Tryd.prog t22 51 true) fun t23 =>
 let t21:Value:=t23
 bq (opExtract t21 0) fun t24 =>
 bq (opExtract t21 1) fun t25 =>
 let t8:Value:=t24
 let t9:Value:=t25
 let t27:Value:=t9
 bq (unV Tryd.prog .not t27) fun t28 =>
 let t26:Value:=t28
 condP (some t26)
 (let t4:Value:=(Value.int .i64 72)
 Q (.ret t4) h)
 (bq (fa 9 1 t3) fun t30 =>
 bq (ld1 h t30) fun t31 =>
 bq (binV Tryd.prog .lss 3 (.tmp 31) (.const (Value.int .i64 0)) t31 (Value.int .i64 0) h) fun t32 =>
 let t29:Value:=t32
 condP (some t29)
 (let t4:Value:=(Value.int .i64 2)
 Q (.ret t4) h)
 (let t33:Value:=t8
 bq (fa 9 1 t3) fun t34 =>
 bq (ld1 h t34) fun t35 =>
 bq (nilV Tryd.prog t33) fun t36 =>
 bq (fa 0 1 t36) fun t37 =>
 bq (stN 1 h t37 t35) fun h=>(fun _ h =>
 let t4:Value:=(Value.int .i64 0)
 Q (.ret t4) h) undef h)))) (fun v h=>Q (.pan v) h))) (opNew h 36 t1.cells).1 (opNew h 36 t1.cells).2
theorem X17_eq (t0 t1:Value) (h:AH) (Q:Res→AH→Prop):X17 t0 t1 h Q=wpC Tryd.prog L17 code17 (argA [t0,t1] Tryd.f17.ntmps) h (retK Tryd.prog res17 Q):=by kernel_rfl
theorem X17_body:Tryd.f17.body=some code17:=by kernel_rfl
theorem X17_ok {t0 t1:Value} {h:AH} {Q:Res→AH→Prop} (H:X17 t0 t1 h Q):HC Tryd.prog 17 [t0,t1].toArray h Q:=HC.body Tryd.func17 X17_body ((X17_eq t0 t1 h Q).mp H)
end Go.Proofs.YtgdnfoijhdpppaaDoor.X
end
