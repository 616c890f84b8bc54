import Derived.KernelRfl
import Derived.Test.YtibigfkeaemanaaGreatDoorProg
import Derived.Test.YtibigfkeaemanaaGreatDoorZ14
import Derived.Test.YtibigfkeaemanaaGreatDoorZ32
set_option linter.unusedVariables false
set_option linter.unusedSimpArgs false
section
namespace Go.Proofs.YtibigfkeaemanaaGreatDoor.X
open Go.Ab
set_option maxRecDepth 100000
noncomputable def code33:Code:=match Tryz.f33.body with | some c=>c | none=>.skip
noncomputable def res33:List ResultVar:=Tryz.f33.results.toList
def L33:Nat→Option (List Nat):=fun r=>if r=2 then some [0,4,12,13,14] else none
noncomputable def H33_2 (t0 t4 t12 t13 t14:Value) (h:AH) (Q:RQ):Prop:=HL Tryz.prog (cAt code33 [.r,.l,.r,.i,.i]) (mkA 40 [(0,t0),(4,t4),(12,t12),(13,t13),(14,t14)]) h (ctxAt Tryz.prog L33 code33 [.r,.l,.r,.i] (retK Tryz.prog res33 Q))
noncomputable def X33_2 (t0 t4 t12 t13 t14:Value) (h:AH) (Q:RQ):Prop :=
 bq (binV Tryz.prog .lss 3 (.tmp 14) (.tmp 13) t14 t13 h) fun t15 =>
 condP (some t15)
 (bq (ia 14 t12 t14) fun t16 =>
 bq (ldN 14 h t16) fun t17 =>
 (fun t6 h =>
 bq (stN 14 h t6 t17) fun h=>(fun _ h =>
 let t18:Value:=t0
 bq (ldN 14 h t6) fun t19 =>
 HC Tryz.prog 50 (([]:List Value)++[t18,t19]++([]:List Value)).toArray h (resK (fun t20 h =>
 bq (binV Tryz.prog .add 3 (.tmp 14) (.const (Value.int .i64 1)) t14 (Value.int .i64 1) h) fun t21 =>
 let t14:Value:=t21
 H33_2 t0 t4 t12 t13 t14 h Q) (fun v h=>Q (.pan v) h))) undef h) (opNew h 104 #[(Value.string (ByteArray.mk #[])),(Value.string (ByteArray.mk #[])),(Value.string (ByteArray.mk #[])),(Value.int .i64 0),(Value.int .i64 0),(Value.string (ByteArray.mk #[])),(Value.slice none 0 0),(Value.string (ByteArray.mk #[])),(Value.int .i64 0),(Value.int .i64 0),(Value.string (ByteArray.mk #[])),(Value.slice none 0 0),(Value.slice none 0 0),(Value.slice none 0 0)]).1 (opNew h 104 #[(Value.string (ByteArray.mk #[])),(Value.string (ByteArray.mk #[])),(Value.string (ByteArray.mk #[])),(Value.int .i64 0),(Value.int .i64 0),(Value.string (ByteArray.mk #[])),(Value.slice none 0 0),(Value.string (ByteArray.mk #[])),(Value.int .i64 0),(Value.int .i64 0),(Value.string (ByteArray.mk #[])),(Value.slice none 0 0),(Value.slice none 0 0),(Value.slice none 0 0)]).2)
 (let t22:Value:=t0
 let t23:Value:=t0
 let t24:Value:=t0
 bq (nilV Tryz.prog t24) fun t25 =>
 bq (fa 0 1 t25) fun t26 =>
 bq (ld1 h t26) fun t27 =>
 let t28:Value:=t4
 bq (sliceV Tryz.prog h 42 t27 none (some t28)) fun t29 =>
 let t30:Value:=t0
 bq (nilV Tryz.prog t30) fun t31 =>
 bq (fa 1 1 t31) fun t32 =>
 bq (ld1 h t32) fun t33 =>
 let t34:Value:=t4
 bq (sliceV Tryz.prog h 76 t33 none (some t34)) fun t35 =>
 bq (nilV Tryz.prog t22) fun t36 =>
 bq (fa 0 1 t36) fun t37 =>
 bq (stN 1 h t37 t29) fun h=>(fun q6_16 h =>
 ((bq (sliceV Tryz.prog h 76 t33 none (some t34)) fun u=>(u=t35))∧(True)) ∧
 bq (nilV Tryz.prog t23) fun t38 =>
 bq (fa 1 1 t38) fun t39 =>
 bq (stN 1 h t39 t35) fun h=>(fun q6_19 h =>
 (True) ∧
 Q (.ret (.tuple [].toArray)) h) undef h) undef h)
theorem X33_2_eq (t0 t4 t12 t13 t14:Value) (h:AH) (Q:RQ):X33_2 t0 t4 t12 t13 t14 h Q=wpC Tryz.prog L33 (cAt code33 [.r,.l,.r,.i,.i]) (mkA 40 [(0,t0),(4,t4),(12,t12),(13,t13),(14,t14)]) h (ctxAt Tryz.prog L33 code33 [.r,.l,.r,.i,.i] (retK Tryz.prog res33 Q)):=by kernel_rfl
theorem X33_2_ok {t0 t4 t12 t13 t14:Value} {h:AH} {Q:RQ} (H:X33_2 t0 t4 t12 t13 t14 h Q):H33_2 t0 t4 t12 t13 t14 h Q:=HL.step (L:=L33) ((X33_2_eq t0 t4 t12 t13 t14 h Q).mp H)
noncomputable def X33 (t0 t1:Value) (h:AH) (Q:RQ):Prop :=
 let t7:Value:=t0
 bq (nilV Tryz.prog t7) fun t8 =>
 bq (fa 0 1 t8) fun t9 =>
 bq (ld1 h t9) fun t10 =>
 bq (lenL t10) fun t11 =>
 let t4:Value:=t11
 let t12:Value:=t1
 bq (lenL t12) fun t13 =>
 let t14:Value:=(Value.int .i64 0)
 H33_2 t0 t4 t12 t13 t14 h Q
theorem X33_eq (t0 t1:Value) (h:AH) (Q:RQ):X33 t0 t1 h Q=wpC Tryz.prog L33 code33 (argA [t0,t1] Tryz.f33.ntmps) h (retK Tryz.prog res33 Q):=by kernel_rfl
theorem X33_body:Tryz.f33.body=some code33:=by kernel_rfl
theorem X33_ok {t0 t1:Value} {h:AH} {Q:RQ} (H:X33 t0 t1 h Q):HC Tryz.prog 33 [t0,t1].toArray h Q:=HC.body Tryz.func33 X33_body ((X33_eq t0 t1 h Q).mp H)
noncomputable def code65:Code:=match Tryz.f65.body with | some c=>c | none=>.skip
noncomputable def res65:List ResultVar:=Tryz.f65.results.toList
def L65:Nat→Option (List Nat):=fun r=>if r=1 then some [0,1,2,6] else if r=6 then some [0,1,2,6,7] else none
noncomputable def H65_1 (t0 t1 t2 t6:Value) (h:AH) (Q:RQ):Prop:=HL Tryz.prog (cAt code65 [.r,.i,.i]) (mkA 34 [(0,t0),(1,t1),(2,t2),(6,t6)]) h (ctxAt Tryz.prog L65 code65 [.r,.i] (retK Tryz.prog res65 Q))
noncomputable def J65_6 (t0 t1 t2 t6 t7:Value) (h:AH) (Q:RQ):Prop:=wpC Tryz.prog L65 (cAt code65 [.r,.i,.i,.r,.l,.i,.r,.r]) (mkA 34 [(0,t0),(1,t1),(2,t2),(6,t6),(7,t7)]) h (ctxAt Tryz.prog L65 code65 [.r,.i,.i,.r,.l,.i,.r,.r] (retK Tryz.prog res65 Q))
noncomputable def K65_6 (t0 t1 t2 t6 t7:Value) (h:AH) (Q:RQ):Prop:=(ctxAt Tryz.prog L65 code65 [.r,.i,.i,.r,.l,.i,.r,.l] (retK Tryz.prog res65 Q)) .normal (mkA 34 [(0,t0),(1,t1),(2,t2),(6,t6),(7,t7)]) h
theorem K65_6_eq (t0 t1 t2 t6 t7:Value) (h:AH) (Q:RQ):J65_6 t0 t1 t2 t6 t7 h Q=K65_6 t0 t1 t2 t6 t7 h Q:=join_eq (p:=[.r,.i,.i,.r,.l,.i,.r]) (code:=code65) (by kernel_rfl) (by kernel_rfl)
noncomputable def X65_6 (t0 t1 t2 t6 t7:Value) (h:AH) (Q:RQ):Prop :=
 let t17:Value:=t7
 bq (binV Tryz.prog .lss 3 (.tmp 17) (.const (Value.int .i64 0)) t17 (Value.int .i64 0) h) fun t18 =>
 condP (some t18)
 (let t19:Value:=t2
 let t20:Value:=t0
 callP Tryz.prog t19 [t20] h (fun t21 h =>
 Q (.ret (.tuple [].toArray)) h) (fun v h=>Q (.pan v) h))
 (let t22:Value:=t2
 let t23:Value:=t0
 let t24:Value:=t7
 bq (sliceV Tryz.prog h 9 t23 none (some t24)) fun t25 =>
 callP Tryz.prog t22 [t25] h (fun t26 h =>
 bq (unV Tryz.prog .not t26) fun t27 =>
 condP (some t27)
 (Q (.ret (.tuple [].toArray)) h)
 (let t28:Value:=t0
 let t29:Value:=t7
 let t30:Value:=t1
 bq (lenS t30) fun t31 =>
 bq (binV Tryz.prog .add 3 (.tmp 29) (.tmp 31) t29 t31 h) fun t32 =>
 bq (sliceV Tryz.prog h 9 t28 (some t32) none) fun t33 =>
 let t0:Value:=t33
 let t10:Value:=t6
 bq (binV Tryz.prog .add 3 (.tmp 10) (.const (Value.int .i64 1)) t10 (Value.int .i64 1) h) fun t11 =>
 let t6:Value:=t11
 H65_1 t0 t1 t2 t6 h Q)) (fun v h=>Q (.pan v) h))
theorem X65_6_eq (t0 t1 t2 t6 t7:Value) (h:AH) (Q:RQ):X65_6 t0 t1 t2 t6 t7 h Q=wpC Tryz.prog L65 (cAt code65 [.r,.i,.i,.r,.l,.i,.r,.r]) (mkA 34 [(0,t0),(1,t1),(2,t2),(6,t6),(7,t7)]) h (ctxAt Tryz.prog L65 code65 [.r,.i,.i,.r,.l,.i,.r,.r] (retK Tryz.prog res65 Q)):=by kernel_rfl
theorem X65_6_ok {t0 t1 t2 t6 t7:Value} {h:AH} {Q:RQ} (H:X65_6 t0 t1 t2 t6 t7 h Q):K65_6 t0 t1 t2 t6 t7 h Q:=(K65_6_eq t0 t1 t2 t6 t7 h Q).mp (((X65_6_eq t0 t1 t2 t6 t7 h Q).mp H))
noncomputable def X65_1 (t0 t1 t2 t6:Value) (h:AH) (Q:RQ):Prop :=
 let t8:Value:=t6
 bq (binV Tryz.prog .lss 3 (.tmp 8) (.const (Value.int .i64 256)) t8 (Value.int .i64 256) h) fun t9 =>
 condP (some t9)
 (let t7:Value:=(Value.int .i64 (-1))
 let t12:Value:=t1
 bq (binV Tryz.prog .neq 9 (.tmp 12) (.const (Value.string (ByteArray.mk #[]))) t12 (Value.string (ByteArray.mk #[])) h) fun t13 =>
 condP (some t13)
 (let t14:Value:=t0
 let t15:Value:=t1
 HC Tryz.prog 79 (([]:List Value)++[t14,t15]++([]:List Value)).toArray h (resK (fun t16 h =>
 let t7:Value:=t16
 K65_6 t0 t1 t2 t6 t7 h Q) (fun v h=>Q (.pan v) h)))
 (K65_6 t0 t1 t2 t6 t7 h Q))
 (Q (.ret (.tuple [].toArray)) h)
theorem X65_1_eq (t0 t1 t2 t6:Value) (h:AH) (Q:RQ):X65_1 t0 t1 t2 t6 h Q=wpC Tryz.prog L65 (cAt code65 [.r,.i,.i]) (mkA 34 [(0,t0),(1,t1),(2,t2),(6,t6)]) h (ctxAt Tryz.prog L65 code65 [.r,.i,.i] (retK Tryz.prog res65 Q)):=by kernel_rfl
theorem X65_1_ok {t0 t1 t2 t6:Value} {h:AH} {Q:RQ} (H:X65_1 t0 t1 t2 t6 h Q):H65_1 t0 t1 t2 t6 h Q:=HL.step (L:=L65) ((X65_1_eq t0 t1 t2 t6 h Q).mp H)
noncomputable def X65 (t0 t1 t2:Value) (h:AH) (Q:RQ):Prop :=
 let t6:Value:=(Value.int .i64 0)
 H65_1 t0 t1 t2 t6 h Q
theorem X65_eq (t0 t1 t2:Value) (h:AH) (Q:RQ):X65 t0 t1 t2 h Q=wpC Tryz.prog L65 code65 (argA [t0,t1,t2] Tryz.f65.ntmps) h (retK Tryz.prog res65 Q):=by kernel_rfl
theorem X65_body:Tryz.f65.body=some code65:=by kernel_rfl
theorem X65_ok {t0 t1 t2:Value} {h:AH} {Q:RQ} (H:X65 t0 t1 t2 h Q):HC Tryz.prog 65 [t0,t1,t2].toArray h Q:=HC.body Tryz.func65 X65_body ((X65_eq t0 t1 t2 h Q).mp H)
noncomputable def code50:Code:=match Tryz.f50.body with | some c=>c | none=>.skip
noncomputable def res50:List ResultVar:=Tryz.f50.results.toList
def L50:Nat→Option (List Nat):=fun r=>if r=15 then some [2,3] else if r=19 then some [2,3,100,101,102] else none
noncomputable def H50_19 (t2 t3 t100 t101 t102:Value) (h:AH) (Q:RQ):Prop:=HL Tryz.prog (cAt code50 (.r::.r::.r::Dir.i::.r::.r::.r::.r::.r::.r::.r::.r::.r::Dir.l::.r::Dir.i::Dir.i::[])) (mkA 114 [(2,t2),(3,t3),(100,t100),(101,t101),(102,t102)]) h (ctxAt Tryz.prog L50 code50 (.r::.r::.r::Dir.i::.r::.r::.r::.r::.r::.r::.r::.r::.r::Dir.l::.r::Dir.i::[]) (retK Tryz.prog res50 Q))
noncomputable def rec50_15 (t2 t3:Value):Loop:=recOf (mkA 114 [(2,t2),(3,t3)]) (rps (cAt code50 [.r,.r,.r,.i,.r,.r,.r,.r,.r,.r,.r,.l,.r,.r,.i])) (rasg (cAt code50 [.r,.r,.r,.i,.r,.r,.r,.r,.r,.r,.r,.l,.r,.r,.i])) (rbody (cAt code50 [.r,.r,.r,.i,.r,.r,.r,.r,.r,.r,.r,.l,.r,.r,.i]))
noncomputable def X50_19 (t2 t3 t100 t101 t102:Value) (h:AH) (Q:RQ):Prop :=
 bq (binV Tryz.prog .lss 3 (.tmp 102) (.tmp 101) t102 t101 h) fun t103 =>
 condP (some t103)
 (bq (ia 1 t100 t102) fun t104 =>
 bq (ld1 h t104) fun t105 =>
 let t8:Value:=t105
 bq (ld1 h t2) fun t106 =>
 bq (fa 1 1 t3) fun t107 =>
 bq (ld1 h t107) fun t108 =>
 let t109:Value:=t8
 bq (bd #[(Value.int .i64 0),(Value.string (ByteArray.mk #[])),(Value.slice none 0 0)] [(1,1,t109)]) fun t110 =>
 let t111:Value:=(Value.func (.func 68) [].toArray [t2,t3].toArray)
 HC Tryz.prog 66 (([]:List Value)++[t106,t108,t110,t111]++([]:List Value)).toArray h (resK (fun t112 h =>
 bq (binV Tryz.prog .add 3 (.tmp 102) (.const (Value.int .i64 1)) t102 (Value.int .i64 1) h) fun t113 =>
 let t102:Value:=t113
 H50_19 t2 t3 t100 t101 t102 h Q) (fun v h=>Q (.pan v) h)))
 (Q (.ret (.tuple [].toArray)) h)
theorem X50_19_eq (t2 t3 t100 t101 t102:Value) (h:AH) (Q:RQ):X50_19 t2 t3 t100 t101 t102 h Q=wpC Tryz.prog L50 (cAt code50 (.r::.r::.r::Dir.i::.r::.r::.r::.r::.r::.r::.r::.r::.r::Dir.l::.r::Dir.i::Dir.i::[])) (mkA 114 [(2,t2),(3,t3),(100,t100),(101,t101),(102,t102)]) h (ctxAt Tryz.prog L50 code50 (.r::.r::.r::Dir.i::.r::.r::.r::.r::.r::.r::.r::.r::.r::Dir.l::.r::Dir.i::Dir.i::[]) (retK Tryz.prog res50 Q)):=by kernel_rfl
theorem X50_19_ok {t2 t3 t100 t101 t102:Value} {h:AH} {Q:RQ} (H:X50_19 t2 t3 t100 t101 t102 h Q):H50_19 t2 t3 t100 t101 t102 h Q:=HL.step (L:=L50) ((X50_19_eq t2 t3 t100 t101 t102 h Q).mp H)
noncomputable def X50 (t0 t1:Value) (h:AH) (Q:RQ):Prop :=
 (fun t2 h =>
 (fun t3 h =>
 bq (ld1 h t2) fun t9 =>
 bq (fa 2 5 t3) fun t10 =>
 bq (ldN 5 h t10) fun t11 =>
 HC Tryz.prog 23 (([]:List Value)++[t9,t11]++([]:List Value)).toArray h (resK (fun t12 h =>
 (fun t4 h =>
 bq (stN 3 h t4 t12) fun h=>(fun _ h =>
 bq (fa 0 1 t3) fun t13 =>
 bq (ld1 h t13) fun t14 =>
 bq (binV Tryz.prog .eql 9 (.tmp 14) (.const (Value.string (ByteArray.mk #[101,109,105,116]))) t14 (Value.string (ByteArray.mk #[101,109,105,116])) h) fun t16 =>
 let t15:Value:=t16
 condP (some t15)
 (bq (ld1 h t2) fun t17 =>
 bq (nilV Tryz.prog t17) fun t18 =>
 bq (fa 2 1 t18) fun t19 =>
 bq (ld1 h t19) fun t20 =>
 bq (lenL t20) fun t21 =>
 bq (binV Tryz.prog .lss 3 (.tmp 21) (.const (Value.int .i64 1024)) t21 (Value.int .i64 1024) h) fun t22 =>
 condP (some t22)
 (bq (ld1 h t2) fun t23 =>
 bq (ld1 h t2) fun t24 =>
 bq (nilV Tryz.prog t24) fun t25 =>
 bq (fa 2 1 t25) fun t26 =>
 bq (ld1 h t26) fun t27 =>
 bq (fa 1 1 t4) fun t28 =>
 bq (ld1 h t28) fun t29 =>
 bq (ld1 h t2) fun t30 =>
 bq (fa 7 5 t3) fun t31 =>
 bq (ldN 5 h t31) fun t32 =>
 HC Tryz.prog 23 (([]:List Value)++[t30,t32]++([]:List Value)).toArray h (resK (fun t33 h =>
 ((bq (ld1 h t28) fun u=>(u=t29))∧((bq (ld1 h t26) fun u=>(u=t27))∧((bq (ld1 h t2) fun u=>(u=t24))∧((bq (ld1 h t2) fun u=>(u=t23))∧(True))))) ∧
 bq (fd1 1 t33) fun t34 =>
 bq (bd #[(Value.string (ByteArray.mk #[])),(Value.string (ByteArray.mk #[]))] [(0,1,t29),(1,1,t34)]) fun t35 =>
 bq (bs 40 #[(Value.string (ByteArray.mk #[])),(Value.string (ByteArray.mk #[]))] 1 h [(0,2,t35)]) fun r=>(fun t36 h =>
 ((bq (ld1 h t26) fun u=>(u=t27))∧((bq (ld1 h t2) fun u=>(u=t24))∧((bq (ld1 h t2) fun u=>(u=t23))∧(True)))) ∧
 bq (apT 40 2 32 (some (Value.agg #[(Value.string (ByteArray.mk #[])),(Value.string (ByteArray.mk #[]))])) h t27 t36) fun r=>(fun t37 h =>
 ((bq (ld1 h t2) fun u=>(u=t23))∧(True)) ∧
 bq (nilV Tryz.prog t23) fun t38 =>
 bq (fa 2 1 t38) fun t39 =>
 bq (stN 1 h t39 t37) fun h=>(fun q5_17 h =>
 (True) ∧
 Q (.ret (.tuple [].toArray)) h) undef h) r.1 r.2) r.1 r.2) (fun v h=>Q (.pan v) h)))
 (Q (.ret (.tuple [].toArray)) h))
 (bq (binV Tryz.prog .eql 9 (.tmp 14) (.const (Value.string (ByteArray.mk #[108,101,116]))) t14 (Value.string (ByteArray.mk #[108,101,116])) h) fun t41 =>
 let t40:Value:=t41
 condP (some t40)
 (((bq (ld1 h t2) fun t42 =>
 bq (ld1 h t2) fun t43 =>
 bq (ld1 h t2) fun t44 =>
 bq (nilV Tryz.prog t44) fun t45 =>
 bq (fa 0 1 t45) fun t46 =>
 bq (ld1 h t46) fun t47 =>
 bq (fa 1 1 t3) fun t48 =>
 bq (ld1 h t48) fun t49 =>
 bq (ld1 h t2) fun t52 =>
 bq (nilV Tryz.prog t52) fun t53 =>
 bq (fa 1 1 t53) fun t54 =>
 bq (ld1 h t54) fun t55 =>
 bq (ldN 3 h t4) fun t56 =>
 bq (bs 9 #[(Value.string (ByteArray.mk #[]))] 1 h [(0,1,t49)]) fun r=>(fun t50 h =>
 ((bq (ldN 3 h t4) fun u=>(u=t56))∧((bq (ld1 h t54) fun u=>(u=t55))∧((bq (ld1 h t2) fun u=>(u=t52))∧((bq (ld1 h t46) fun u=>(u=t47))∧((bq (ld1 h t2) fun u=>(u=t44))∧((bq (ld1 h t2) fun u=>(u=t43))∧((bq (ld1 h t2) fun u=>(u=t42))∧(True)))))))) ∧
 bq (apT 9 1 16 (some (Value.string (ByteArray.mk #[]))) h t47 t50) fun r=>(fun t51 h =>
 ((bq (ldN 3 h t4) fun u=>(u=t56))∧((bq (ld1 h t54) fun u=>(u=t55))∧((bq (ld1 h t2) fun u=>(u=t52))∧((bq (ld1 h t2) fun u=>(u=t43))∧((bq (ld1 h t2) fun u=>(u=t42))∧(True)))))) ∧
 bq (bs 68 #[(Value.int .i64 0),(Value.string (ByteArray.mk #[])),(Value.slice none 0 0)] 1 h [(0,3,t56)]) fun r=>(fun t57 h =>
 ((bq (ld1 h t54) fun u=>(u=t55))∧((bq (ld1 h t2) fun u=>(u=t52))∧((bq (ld1 h t2) fun u=>(u=t43))∧((bq (ld1 h t2) fun u=>(u=t42))∧(True))))) ∧
 bq (apT 68 3 48 (some (Value.agg #[(Value.int .i64 0),(Value.string (ByteArray.mk #[])),(Value.slice none 0 0)])) h t55 t57) fun r=>(fun t58 h =>
 ((bq (ld1 h t2) fun u=>(u=t43))∧((bq (ld1 h t2) fun u=>(u=t42))∧(True))) ∧
 bq (nilV Tryz.prog t42) fun t59 =>
 bq (fa 0 1 t59) fun t60 =>
 bq (stN 1 h t60 t51) fun h=>(fun q7_19 h =>
 ((bq (ld1 h t2) fun u=>(u=t43))∧(True)) ∧
 bq (nilV Tryz.prog t43) fun t61 =>
 bq (fa 1 1 t61) fun t62 =>
 bq (stN 1 h t62 t58) fun h=>(fun q7_22 h =>
 (True) ∧
 Q (.ret (.tuple [].toArray)) h) undef h) undef h) r.1 r.2) r.1 r.2) r.1 r.2) r.1 r.2) ∧
 (bq (ld1 h t2) fun t42 =>
 bq (ld1 h t2) fun t43 =>
 bq (ld1 h t2) fun t44 =>
 bq (nilV Tryz.prog t44) fun t45 =>
 bq (fa 0 1 t45) fun t46 =>
 bq (ld1 h t46) fun t47 =>
 bq (fa 1 1 t3) fun t48 =>
 bq (ld1 h t48) fun t49 =>
 bq (ld1 h t2) fun t52 =>
 bq (nilV Tryz.prog t52) fun t53 =>
 bq (fa 1 1 t53) fun t54 =>
 bq (ld1 h t54) fun t55 =>
 bq (ldN 3 h t4) fun t56 =>
 bq (bs 9 #[(Value.string (ByteArray.mk #[]))] 1 h [(0,1,t49)]) fun r=>(fun t50 h =>
 ((bq (ldN 3 h t4) fun u=>(u=t56))∧((bq (ld1 h t54) fun u=>(u=t55))∧((bq (ld1 h t2) fun u=>(u=t52))∧((bq (ld1 h t46) fun u=>(u=t47))∧((bq (ld1 h t2) fun u=>(u=t44))∧((bq (ld1 h t2) fun u=>(u=t43))∧((bq (ld1 h t2) fun u=>(u=t42))∧(True)))))))) ∧
 bq (bs 68 #[(Value.int .i64 0),(Value.string (ByteArray.mk #[])),(Value.slice none 0 0)] 1 h [(0,3,t56)]) fun r=>(fun t57 h =>
 ((bq (ld1 h t54) fun u=>(u=t55))∧((bq (ld1 h t2) fun u=>(u=t52))∧((bq (ld1 h t46) fun u=>(u=t47))∧((bq (ld1 h t2) fun u=>(u=t44))∧((bq (ld1 h t2) fun u=>(u=t43))∧((bq (ld1 h t2) fun u=>(u=t42))∧(True))))))) ∧
 bq (apT 9 1 16 (some (Value.string (ByteArray.mk #[]))) h t47 t50) fun r=>(fun t51 h =>
 ((bq (ld1 h t54) fun u=>(u=t55))∧((bq (ld1 h t2) fun u=>(u=t52))∧((bq (ld1 h t2) fun u=>(u=t43))∧((bq (ld1 h t2) fun u=>(u=t42))∧(True))))) ∧
 bq (apT 68 3 48 (some (Value.agg #[(Value.int .i64 0),(Value.string (ByteArray.mk #[])),(Value.slice none 0 0)])) h t55 t57) fun r=>(fun t58 h =>
 ((bq (ld1 h t2) fun u=>(u=t43))∧((bq (ld1 h t2) fun u=>(u=t42))∧(True))) ∧
 bq (nilV Tryz.prog t42) fun t59 =>
 bq (fa 0 1 t59) fun t60 =>
 bq (stN 1 h t60 t51) fun h=>(fun q7_19 h =>
 ((bq (ld1 h t2) fun u=>(u=t43))∧(True)) ∧
 bq (nilV Tryz.prog t43) fun t61 =>
 bq (fa 1 1 t61) fun t62 =>
 bq (stN 1 h t62 t58) fun h=>(fun q7_22 h =>
 (True) ∧
 Q (.ret (.tuple [].toArray)) h) undef h) undef h) r.1 r.2) r.1 r.2) r.1 r.2) r.1 r.2)) ∧
 (bq (ld1 h t2) fun t42 =>
 bq (ld1 h t2) fun t43 =>
 bq (ld1 h t2) fun t44 =>
 bq (nilV Tryz.prog t44) fun t45 =>
 bq (fa 0 1 t45) fun t46 =>
 bq (ld1 h t46) fun t47 =>
 bq (fa 1 1 t3) fun t48 =>
 bq (ld1 h t48) fun t49 =>
 bq (ld1 h t2) fun t52 =>
 bq (nilV Tryz.prog t52) fun t53 =>
 bq (fa 1 1 t53) fun t54 =>
 bq (ld1 h t54) fun t55 =>
 bq (ldN 3 h t4) fun t56 =>
 bq (bs 68 #[(Value.int .i64 0),(Value.string (ByteArray.mk #[])),(Value.slice none 0 0)] 1 h [(0,3,t56)]) fun r=>(fun t57 h =>
 ((bq (ld1 h t54) fun u=>(u=t55))∧((bq (ld1 h t2) fun u=>(u=t52))∧((bq (ld1 h t48) fun u=>(u=t49))∧((bq (ld1 h t46) fun u=>(u=t47))∧((bq (ld1 h t2) fun u=>(u=t44))∧((bq (ld1 h t2) fun u=>(u=t43))∧((bq (ld1 h t2) fun u=>(u=t42))∧(True)))))))) ∧
 bq (bs 9 #[(Value.string (ByteArray.mk #[]))] 1 h [(0,1,t49)]) fun r=>(fun t50 h =>
 ((bq (ld1 h t54) fun u=>(u=t55))∧((bq (ld1 h t2) fun u=>(u=t52))∧((bq (ld1 h t46) fun u=>(u=t47))∧((bq (ld1 h t2) fun u=>(u=t44))∧((bq (ld1 h t2) fun u=>(u=t43))∧((bq (ld1 h t2) fun u=>(u=t42))∧(True))))))) ∧
 bq (apT 9 1 16 (some (Value.string (ByteArray.mk #[]))) h t47 t50) fun r=>(fun t51 h =>
 ((bq (ld1 h t54) fun u=>(u=t55))∧((bq (ld1 h t2) fun u=>(u=t52))∧((bq (ld1 h t2) fun u=>(u=t43))∧((bq (ld1 h t2) fun u=>(u=t42))∧(True))))) ∧
 bq (apT 68 3 48 (some (Value.agg #[(Value.int .i64 0),(Value.string (ByteArray.mk #[])),(Value.slice none 0 0)])) h t55 t57) fun r=>(fun t58 h =>
 ((bq (ld1 h t2) fun u=>(u=t43))∧((bq (ld1 h t2) fun u=>(u=t42))∧(True))) ∧
 bq (nilV Tryz.prog t42) fun t59 =>
 bq (fa 0 1 t59) fun t60 =>
 bq (stN 1 h t60 t51) fun h=>(fun q7_19 h =>
 ((bq (ld1 h t2) fun u=>(u=t43))∧(True)) ∧
 bq (nilV Tryz.prog t43) fun t61 =>
 bq (fa 1 1 t61) fun t62 =>
 bq (stN 1 h t62 t58) fun h=>(fun q7_22 h =>
 (True) ∧
 Q (.ret (.tuple [].toArray)) h) undef h) undef h) r.1 r.2) r.1 r.2) r.1 r.2) r.1 r.2))
 (bq (binV Tryz.prog .eql 9 (.tmp 14) (.const (Value.string (ByteArray.mk #[105,102]))) t14 (Value.string (ByteArray.mk #[105,102])) h) fun t64 =>
 let t63:Value:=t64
 condP (some t63)
 (bq (fa 0 1 t4) fun t65 =>
 bq (ld1 h t65) fun t66 =>
 bq (binV Tryz.prog .neq 3 (.tmp 66) (.const (Value.int .i64 0)) t66 (Value.int .i64 0) h) fun t67 =>
 condP (some t67)
 (bq (ld1 h t2) fun t68 =>
 bq (fa 12 1 t3) fun t69 =>
 bq (ld1 h t69) fun t70 =>
 HC Tryz.prog 33 (([]:List Value)++[t68,t70]++([]:List Value)).toArray h (resK (fun t71 h =>
 Q (.ret (.tuple [].toArray)) h) (fun v h=>Q (.pan v) h)))
 (bq (ld1 h t2) fun t72 =>
 bq (fa 13 1 t3) fun t73 =>
 bq (ld1 h t73) fun t74 =>
 HC Tryz.prog 33 (([]:List Value)++[t72,t74]++([]:List Value)).toArray h (resK (fun t75 h =>
 Q (.ret (.tuple [].toArray)) h) (fun v h=>Q (.pan v) h))))
 (bq (binV Tryz.prog .eql 9 (.tmp 14) (.const (Value.string (ByteArray.mk #[101,97,99,104]))) t14 (Value.string (ByteArray.mk #[101,97,99,104])) h) fun t77 =>
 let t76:Value:=t77
 condP (some t76)
 (bq (ld1 h t2) fun t78 =>
 bq (fa 7 5 t3) fun t79 =>
 bq (ldN 5 h t79) fun t80 =>
 HC Tryz.prog 23 (([]:List Value)++[t78,t80]++([]:List Value)).toArray h (resK (fun t81 h =>
 bq (fd1 1 t81) fun t82 =>
 (fun t5 h =>
 bq (stN 1 h t5 t82) fun h=>(fun _ h =>
 let t83:Value:=(Value.func (.func 64) [].toArray [t4,t5].toArray)
 (rndP none h∧rangeQ Tryz.prog t83 (rec50_15 t2 t3) h (fun j h=>jumpX
 (Q (.ret (.tuple [].toArray)) h)
 (Q (.ret (.tuple [].toArray)) h)
 (fun i=>if i=1 then (Q (.ret (.tuple [].toArray)) h) else (if i=0 then (Q (.ret (.tuple [].toArray)) h) else (False)))
 (fun l=>False) j) (fun v h=>Q (.pan v) h))) undef h) (opNew h 9 #[(Value.string (ByteArray.mk #[]))]).1 (opNew h 9 #[(Value.string (ByteArray.mk #[]))]).2) (fun v h=>Q (.pan v) h)))
 (bq (binV Tryz.prog .eql 9 (.tmp 14) (.const (Value.string (ByteArray.mk #[102,111,114]))) t14 (Value.string (ByteArray.mk #[102,111,114])) h) fun t93 =>
 let t92:Value:=t93
 condP (some t92)
 (bq (fa 2 1 t4) fun t94 =>
 bq (ld1 h t94) fun t95 =>
 bq (fa 2 1 t4) fun t96 =>
 bq (ld1 h t96) fun t97 =>
 bq (lenL t97) fun t98 =>
 (if [t98,(Value.int .i64 256)].all (plainN 12) then bq (flatV Tryz.prog (Builtin.min_ #[3,3] 3 [t98,(Value.int .i64 256)].toArray)) fun t99 =>
 bq (sliceV Tryz.prog h 42 t95 none (some t99)) fun t100 =>
 bq (lenL t100) fun t101 =>
 let t102:Value:=(Value.int .i64 0)
 H50_19 t2 t3 t100 t101 t102 h Q else False))
 (Q (.ret (.tuple [].toArray)) h)))))) undef h) (opNew h 68 #[(Value.int .i64 0),(Value.string (ByteArray.mk #[])),(Value.slice none 0 0)]).1 (opNew h 68 #[(Value.int .i64 0),(Value.string (ByteArray.mk #[])),(Value.slice none 0 0)]).2) (fun v h=>Q (.pan v) h))) (opNew h 104 t1.cells).1 (opNew h 104 t1.cells).2) (opNew h 74 t0.cells).1 (opNew h 74 t0.cells).2
theorem X50_eq (t0 t1:Value) (h:AH) (Q:RQ):X50 t0 t1 h Q=wpC Tryz.prog L50 code50 (argA [t0,t1] Tryz.f50.ntmps) h (retK Tryz.prog res50 Q):=by kernel_rfl
theorem X50_body:Tryz.f50.body=some code50:=by kernel_rfl
theorem X50_ok {t0 t1:Value} {h:AH} {Q:RQ} (H:X50 t0 t1 h Q):HC Tryz.prog 50 [t0,t1].toArray h Q:=HC.body Tryz.func50 X50_body ((X50_eq t0 t1 h Q).mp H)
noncomputable def Y50_15 (t2 t3 t84:Value) (k:Nat) (h:AH) (K:Value→AH→Prop):Prop :=
 let t6:Value:=t84
 bq (loopAt h k) fun q=>q.1.state=.ready∧(fun h:AH =>
 bq (ld1 h t2) fun t85 =>
 bq (fa 1 1 t3) fun t86 =>
 bq (ld1 h t86) fun t87 =>
 let t88:Value:=t6
 bq (bd #[(Value.int .i64 0),(Value.string (ByteArray.mk #[])),(Value.slice none 0 0)] [(1,1,t88)]) fun t89 =>
 let t90:Value:=(Value.func (.func 67) [].toArray [t2,t3].toArray)
 HC Tryz.prog 66 (([]:List Value)++[t85,t87,t89,t90]++([]:List Value)).toArray h (resK (fun t91 h =>
 endRd K k none h) (fun _ _=>False))) (h.put k (some (.loop { q.1 with state:=.busy },q.2)))
theorem Y50_15_eq (t2 t3 t84:Value) (k:Nat) (h:AH) (K:Value→AH→Prop) (st:LoopState) (pe:Option Code):Y50_15 t2 t3 t84 k h K=roundW Tryz.prog L50 { (rec50_15 t2 t3) with state:=st,pending:=pe } k [t84] h K:=by kernel_rfl
theorem Y50_15_ok {t2 t3 t84:Value} {k:Nat} {h:AH} {K:Value→AH→Prop} {st:LoopState} {pe:Option Code} {s:Option Nat} (hl:loopAt h k=some ({ (rec50_15 t2 t3) with state:=st,pending:=pe },s)) (H:Y50_15 t2 t3 t84 k h K):roundP Tryz.prog k [t84] h K:=roundP_of hl (by kernel_rfl) ((Y50_15_eq t2 t3 t84 k h K st pe).mp H)
noncomputable def code64:Code:=match Tryz.f64.body with | some c=>c | none=>.skip
noncomputable def res64:List ResultVar:=Tryz.f64.results.toList
def L64:Nat→Option (List Nat):=fun r=>none
noncomputable def X64 (t0 t1 t2:Value) (h:AH) (Q:RQ):Prop :=
 bq (fa 1 1 t1) fun t4 =>
 bq (ld1 h t4) fun t5 =>
 bq (ld1 h t2) fun t6 =>
 let t7:Value:=t0
 HC Tryz.prog 65 (([]:List Value)++[t5,t6,t7]++([]:List Value)).toArray h (resK (fun t8 h =>
 Q (.ret (.tuple [].toArray)) h) (fun v h=>Q (.pan v) h))
theorem X64_eq (t0 t1 t2:Value) (h:AH) (Q:RQ):X64 t0 t1 t2 h Q=wpC Tryz.prog L64 code64 (argA [t0,t1,t2] Tryz.f64.ntmps) h (retK Tryz.prog res64 Q):=by kernel_rfl
theorem X64_body:Tryz.f64.body=some code64:=by kernel_rfl
theorem X64_ok {t0 t1 t2:Value} {h:AH} {Q:RQ} (H:X64 t0 t1 t2 h Q):HC Tryz.prog 64 [t0,t1,t2].toArray h Q:=HC.body Tryz.func64 X64_body ((X64_eq t0 t1 t2 h Q).mp H)
noncomputable def code67:Code:=match Tryz.f67.body with | some c=>c | none=>.skip
noncomputable def res67:List ResultVar:=Tryz.f67.results.toList
def L67:Nat→Option (List Nat):=fun r=>none
noncomputable def X67 (t0 t1:Value) (h:AH) (Q:RQ):Prop :=
 bq (ld1 h t0) fun t2 =>
 bq (fa 12 1 t1) fun t3 =>
 bq (ld1 h t3) fun t4 =>
 HC Tryz.prog 33 (([]:List Value)++[t2,t4]++([]:List Value)).toArray h (resK (fun t5 h =>
 Q (.ret (.tuple [].toArray)) h) (fun v h=>Q (.pan v) h))
theorem X67_eq (t0 t1:Value) (h:AH) (Q:RQ):X67 t0 t1 h Q=wpC Tryz.prog L67 code67 (argA [t0,t1] Tryz.f67.ntmps) h (retK Tryz.prog res67 Q):=by kernel_rfl
theorem X67_body:Tryz.f67.body=some code67:=by kernel_rfl
theorem X67_ok {t0 t1:Value} {h:AH} {Q:RQ} (H:X67 t0 t1 h Q):HC Tryz.prog 67 [t0,t1].toArray h Q:=HC.body Tryz.func67 X67_body ((X67_eq t0 t1 h Q).mp H)
noncomputable def code68:Code:=match Tryz.f68.body with | some c=>c | none=>.skip
noncomputable def res68:List ResultVar:=Tryz.f68.results.toList
def L68:Nat→Option (List Nat):=fun r=>none
noncomputable def X68 (t0 t1:Value) (h:AH) (Q:RQ):Prop :=
 bq (ld1 h t0) fun t2 =>
 bq (fa 12 1 t1) fun t3 =>
 bq (ld1 h t3) fun t4 =>
 HC Tryz.prog 33 (([]:List Value)++[t2,t4]++([]:List Value)).toArray h (resK (fun t5 h =>
 Q (.ret (.tuple [].toArray)) h) (fun v h=>Q (.pan v) h))
theorem X68_eq (t0 t1:Value) (h:AH) (Q:RQ):X68 t0 t1 h Q=wpC Tryz.prog L68 code68 (argA [t0,t1] Tryz.f68.ntmps) h (retK Tryz.prog res68 Q):=by kernel_rfl
theorem X68_body:Tryz.f68.body=some code68:=by kernel_rfl
theorem X68_ok {t0 t1:Value} {h:AH} {Q:RQ} (H:X68 t0 t1 h Q):HC Tryz.prog 68 [t0,t1].toArray h Q:=HC.body Tryz.func68 X68_body ((X68_eq t0 t1 h Q).mp H)
noncomputable def code18:Code:=match Tryz.f18.body with | some c=>c | none=>.skip
noncomputable def res18:List ResultVar:=Tryz.f18.results.toList
def L18:Nat→Option (List Nat):=fun r=>none
noncomputable def X18 (t0 t1 t2:Value) (h:AH) (Q:RQ):Prop :=
 let t6:Value:=(Value.slice none 0 0)
 let t8:Value:=t1
 let t9:Value:=t2
 bq (bd #[(Value.slice none 0 0),(Value.slice none 0 0),(Value.slice none 0 0)] [(0,1,t8),(1,1,t9)]) fun t10 =>
 (fun t11 h =>
 let t7:Value:=t11
 let t12:Value:=t7
 let t13:Value:=t0
 HC Tryz.prog 33 (([]:List Value)++[t12,t13]++([]:List Value)).toArray h (resK (fun t14 h =>
 let t15:Value:=t7
 bq (nilV Tryz.prog t15) fun t16 =>
 bq (fa 2 1 t16) fun t17 =>
 bq (ld1 h t17) fun t18 =>
 let t6:Value:=t18
 Q (.ret t6) h) (fun v h=>Q (.pan v) h))) (opNew h 78 t10.cells).1 (opNew h 78 t10.cells).2
theorem X18_eq (t0 t1 t2:Value) (h:AH) (Q:RQ):X18 t0 t1 t2 h Q=wpC Tryz.prog L18 code18 (argA [t0,t1,t2] Tryz.f18.ntmps) h (retK Tryz.prog res18 Q):=by kernel_rfl
theorem X18_body:Tryz.f18.body=some code18:=by kernel_rfl
theorem X18_ok {t0 t1 t2:Value} {h:AH} {Q:RQ} (H:X18 t0 t1 t2 h Q):HC Tryz.prog 18 [t0,t1,t2].toArray h Q:=HC.body Tryz.func18 X18_body ((X18_eq t0 t1 t2 h Q).mp H)
noncomputable def code8:Code:=match Tryz.f8.body with | some c=>c | none=>.skip
noncomputable def res8:List ResultVar:=Tryz.f8.results.toList
def L8:Nat→Option (List Nat):=fun r=>none
noncomputable def X8 (t0 t1 t2:Value) (h:AH) (Q:RQ):Prop :=
 let t6:Value:=(Value.slice none 0 0)
 let t7:Value:=t0
 bq (binV Tryz.prog .eql 22 (.tmp 7) (.const (Value.pointer none)) t7 (Value.pointer none) h) fun t8 =>
 condP (some t8)
 (let t6:Value:=(Value.slice none 0 0)
 Q (.ret t6) h)
 (let t9:Value:=t0
 bq (nilV Tryz.prog t9) fun t10 =>
 bq (fa 0 1 t10) fun t11 =>
 bq (ld1 h t11) fun t12 =>
 bq (bs 9 #[(Value.string (ByteArray.mk #[])),(Value.string (ByteArray.mk #[]))] 2 h [(0,1,(Value.string (ByteArray.mk #[107,101,121]))),(1,1,(Value.string (ByteArray.mk #[118,97,108,117,101])))]) fun r=>(fun t13 h =>
 let t14:Value:=t1
 bq (bd #[(Value.int .i64 0),(Value.string (ByteArray.mk #[])),(Value.slice none 0 0)] [(1,1,t14)]) fun t15 =>
 let t16:Value:=t2
 bq (bd #[(Value.int .i64 0),(Value.string (ByteArray.mk #[])),(Value.slice none 0 0)] [(1,1,t16)]) fun t17 =>
 bq (bs 68 #[(Value.int .i64 0),(Value.string (ByteArray.mk #[])),(Value.slice none 0 0),(Value.int .i64 0),(Value.string (ByteArray.mk #[])),(Value.slice none 0 0)] 2 h [(0,3,t15),(3,3,t17)]) fun r=>(fun t18 h =>
 HC Tryz.prog 18 (([]:List Value)++[t12,t13,t18]++([]:List Value)).toArray h (resK (fun t19 h =>
 let t6:Value:=t19
 Q (.ret t6) h) (fun v h=>Q (.pan v) h))) r.1 r.2) r.1 r.2)
theorem X8_eq (t0 t1 t2:Value) (h:AH) (Q:RQ):X8 t0 t1 t2 h Q=wpC Tryz.prog L8 code8 (argA [t0,t1,t2] Tryz.f8.ntmps) h (retK Tryz.prog res8 Q):=by kernel_rfl
theorem X8_body:Tryz.f8.body=some code8:=by kernel_rfl
theorem X8_ok {t0 t1 t2:Value} {h:AH} {Q:RQ} (H:X8 t0 t1 t2 h Q):HC Tryz.prog 8 [t0,t1,t2].toArray h Q:=HC.body Tryz.func8 X8_body ((X8_eq t0 t1 t2 h Q).mp H)
end Go.Proofs.YtibigfkeaemanaaGreatDoor.X
end
section
namespace Go.Proofs.YtibigfkeaemanaaGreatDoor.L
open Go.Ab Go.Lang Go.Proofs.YtibigfkeaemanaaGreatDoor.X
set_option maxRecDepth 100000
def BP (ke:Nat) (t:Tri) (e:Env) (h:AH) (R:Lang.Out→Prop) (r:Res) (h':AH):Prop:=r=.ret (.tuple #[])∧∃ t' o',EnvS h' ke t' e o'∧AdvE ke t h h'∧Mv h t t'∧R o'
theorem Mv.less {h h0:AH} {t u:Tri} (M:Mv h t u) (hs:h0.size ≤ h.size):Mv h0 t u:=fun k hk=>(M k hk).imp id fun h=>Nat.le_trans hs h
theorem nmL_snoc (e:Env) (p:ByteArray × V):nmL (e++[p])=nmL e++[.string p.1]:=by unfold nmL;simp
theorem with_end {h h3:AH} {ke:Nat} {t:Tri} {n' v':Value} {e:Env} {o:Lang.Out} {nm:ByteArray} {x:V} (G:EnvG h3 ke t ⟨n',v',t.o⟩ (nmL e++[.string nm]) (e++[(nm,x)]) o) (A:AdvE ke t h h3) (M:Mv h t ⟨n',v',t.o⟩) {fw:FuncId} {a b:Array Value} (hb:hasBody Tryz.prog fw=true) {R:Lang.Out→Prop}
  (hw:∀ h1 t1,EnvS h1 ke t1 (e++[(nm,x)]) o→AdvE ke t h h1→Mv h t t1→HC Tryz.prog fw (a.toList++b.toList).toArray h1 (BP ke t1 (e++[(nm,x)]) h1 R)) :
  K66_3 (.pointer (some ⟨ke,0,none⟩)) (.func (.func fw) a b) (.int .i64 e.length) ((h3.put ke (some (.cells #[n',t.v,t.o] 78 (0,0),none))).put ke (some (.cells #[n',v',t.o] 78 (0,0),none))) (BP ke t e h R):=by
 refine X66_3_ok ?_
 unfold X66_3
 have S4:EnvS ((h3.put ke (some (.cells #[n',t.v,t.o] 78 (0,0),none))).put ke (some (.cells #[n',v',t.o] 78 (0,0),none))) ke ⟨n',v',t.o⟩ (e++[(nm,x)]) o:=by
  have:=(G.put (r':=⟨n',t.v,t.o⟩)).put (r':=⟨n',v',t.o⟩)
  rw [← nmL_snoc e (nm,x)] at this
  exact this.s
 have A4:=(A.put (some (.cells #[n',t.v,t.o] 78 (0,0),none))).put (some (.cells #[n',v',t.o] 78 (0,0),none))
 generalize (h3.put ke (some (.cells #[n',t.v,t.o] 78 (0,0),none))).put ke (some (.cells #[n',v',t.o] 78 (0,0),none))=h4 at S4 A4 ⊢
 have hcall:=hw h4 _ S4 A4 M
 simp (disch:=first|exact dz|fail) only [SXB,SX,simprocAttr]
 refine HC.mono hcall fun r h5 hp=>?_
 obtain ⟨rfl,t5,o5,S5,A5,M5,hR⟩:=hp
 simp only [resK_ret]
 obtain ⟨c1,c2,c3,c4,c5⟩:=S5.cut
 have c2':=c2 h5 S5
 have hr5:=S5.row
 have hn:∃ a n c,cutS t5.n e.length=.slice a n c:=by obtain ⟨a,n,c,hh⟩:=S5.names.isSl;rw [hh];exact ⟨_,_,_,rfl⟩
 have hv:∃ a n c,cutS t5.v e.length=.slice a n c:=by
  obtain ⟨vs,B,_⟩:=S5.vals
  obtain ⟨a,n,c,hh⟩:=B.isSl;rw [hh];exact ⟨_,_,_,rfl⟩
 obtain ⟨x1,x2,x3,hn⟩:=hn
 obtain ⟨y1,y2,y3,hv⟩:=hv
 rw [hn] at c1 c4 c5
 rw [hv] at c2' c3 c4 c5
 simp (disch:=first|exact dz|fail) only [hr5,c1,c2',c3,SXB,SX,simprocAttr]
 have A6:=(A4.trans A5 M)
 refine ⟨rfl,_,o5,c4 _ (get_put_eq rfl) (fun k hk=>by rw [get_put_ne hk,get_put_ne hk]) (by simp),((A6.put _).put _),fun k hk=>?_,hR⟩
 exact (M.trans M5 A4.size) k (c5 k hk)
theorem with_ok {h:AH} {ke:Nat} {t:Tri} {e:Env} {o:Lang.Out} (S:EnvS h ke t e o) (hlen:e.length ≤ 999999) {nm:ByteArray} {v:Value} {x:V} (hv:VR v x) {fw:FuncId} {a b:Array Value} (hb:hasBody Tryz.prog fw=true) {R:Lang.Out→Prop}
  (hw:∀ h1 t1,EnvS h1 ke t1 (e++[(nm,x)]) o→AdvE ke t h h1→Mv h t t1→HC Tryz.prog fw (a.toList++b.toList).toArray h1 (BP ke t1 (e++[(nm,x)]) h1 R)) :
  HC Tryz.prog 66 [.pointer (some ⟨ke,0,none⟩),.string nm,v,.func (.func fw) a b].toArray h (BP ke t e h R):=by
 refine X66_ok ?_
 unfold X66
 obtain ⟨s,hs,rfl⟩:=hv
 have hs1:=slOne hs
 have hr:=S.row
 have hlt:=S.lt
 have el:=S.names.len
 have enl:(nmL e).length=e.length:=by unfold nmL;simp
 rw [enl] at el
 simp (disch:=first|exact dz|fail) only [hr,el,hs1,SXB,SX,simprocAttr]
 have nhas:∀ k,h.size ≤ k→¬ t.has k:=fun k hk hh=>by have:=S.lts k hh;omega
 have full:∀ (h1 h3:AH) (n' v':Value),Kp h.size h h1→EnvG h3 ke t ⟨n',v',t.o⟩ (nmL e++[.string nm]) (e++[(nm,x)]) o→AdvE ke t h1 h3→Mv h1 t ⟨n',v',t.o⟩→K66_3 (.pointer (some ⟨ke,0,none⟩)) (.func (.func fw) a b) (.int .i64 e.length) ((h3.put ke (some (.cells #[n',t.v,t.o] 78 (0,0),none))).put ke (some (.cells #[n',v',t.o] 78 (0,0),none))) (BP ke t e h R) :=
  fun h1 h3 n' v' K G A M=>with_end G ((AdvE.of_kp K).trans A (.refl _ _)) (fun k hk=>by
   rcases M k hk with h | h
   ·exact .inl h
   ·exact .inr (Nat.le_trans K.size h)) hb hw
 have wc:(Value.agg #[.int .i64 x.n,.string x.t,s]).cells = #[.int .i64 x.n,.string x.t,s]:=rfl
 have hvr:VR (.agg #[.int .i64 x.n,.string x.t,s]) (nm,x).2:=⟨s,hs,rfl⟩
 refine ⟨⟨?_,?_⟩,?_⟩
 ·have K1:Kp h.size h ((h.push (.cells #[.int .i64 x.n,.string x.t,s] 68 (0,0)) none).push (.cells #[.string nm] 9 (0,0)) none):=by (repeat (first | exact Kp.refl _ _ | assumption | refine Kp.push ?_ _ _ (by first | omega | (simp only [sz_push,sz_put];omega)) | refine Kp.put ?_ _ _ (by first | omega | (simp only [sz_push,sz_put];omega))))
  have gn:=get_push_eq (h:=h.push (.cells #[.int .i64 x.n,.string x.t,s] 68 (0,0)) none) (o:=.cells #[.string nm] 9 (0,0)) (s:=none) (j:=h.size + 1) (by simp)
  have gv:=(get_push_ne (h:=h.push (.cells #[.int .i64 x.n,.string x.t,s] 68 (0,0)) none) (o:=.cells #[.string nm] 9 (0,0)) (s:=none) (j:=h.size) (by simp)).trans (get_push_eq rfl)
  have z1:((h.push (.cells #[.int .i64 x.n,.string x.t,s] 68 (0,0)) none).push (.cells #[.string nm] 9 (0,0)) none).size=h.size + 2:=by simp
  generalize (h.push (.cells #[.int .i64 x.n,.string x.t,s] 68 (0,0)) none).push (.cells #[.string nm] 9 (0,0)) none=h1 at K1 gn gv z1 ⊢
  obtain ⟨n',h2,a1,G2,A2,M2⟩:=(S.g.kp K1).appN (x:=.slice (some ⟨h.size + 1,0,none⟩) 1 1) (Src.one gn rfl rfl) (by rw [enl];omega)
  refine bq_of a1 ?_
  have hr2:=G2.row
  have gv2:=(A2.get h.size (by omega) (by omega) (nhas _ (by omega))).trans gv
  have z2:=A2.size
  obtain ⟨x1,x2,x3,rfl⟩:=G2.names.isSl
  simp (disch:=first|exact dz|fail) only [hr2,gv2,SXB,SX,simprocAttr]
  obtain ⟨v',h3,b1,G3,A3,M3⟩:=(G2.kp (h':=h2.push (.cells #[.int .i64 x.n,.string x.t,s] 68 (0,0)) none) (by (repeat (first | exact Kp.refl _ _ | assumption | refine Kp.push ?_ _ _ (by first | omega | (simp only [sz_push,sz_put];omega)) | refine Kp.put ?_ _ _ (by first | omega | (simp only [sz_push,sz_put];omega)))))).appV (x:=.slice (some ⟨h2.size,0,none⟩) 1 1) (p:=(nm,x)) (Src.one (get_push_eq rfl) wc rfl) hvr (by omega)
  refine bq_of b1 ?_
  have hr3:=G3.row
  obtain ⟨y1,y2,y3,rfl⟩:∃ a n c,v' = .slice a n c:=by obtain ⟨vs,B,_⟩:=G3.vals;exact B.isSl
  simp (disch:=first|exact dz|fail) only [hr3,SXB,SX,simprocAttr]
  exact full h1 h3 _ _ K1 G3 (A2.trans ((AdvE.of_kp (by (repeat (first | exact Kp.refl _ _ | assumption | refine Kp.push ?_ _ _ (by first | omega | (simp only [sz_push,sz_put];omega)) | refine Kp.put ?_ _ _ (by first | omega | (simp only [sz_push,sz_put];omega)))))).trans A3 (.refl _ _)) M2) (M2.trans (M3.less (h0:=h2) (by simp)) A2.size)
 ·have K1:Kp h.size h (((h.push (.cells #[.int .i64 x.n,.string x.t,s] 68 (0,0)) none).push (.cells #[.string nm] 9 (0,0)) none).push (.cells #[.int .i64 x.n,.string x.t,s] 68 (0,0)) none):=by (repeat (first | exact Kp.refl _ _ | assumption | refine Kp.push ?_ _ _ (by first | omega | (simp only [sz_push,sz_put];omega)) | refine Kp.put ?_ _ _ (by first | omega | (simp only [sz_push,sz_put];omega))))
  have gn:=((get_push_ne (h:=(h.push (.cells #[.int .i64 x.n,.string x.t,s] 68 (0,0)) none).push (.cells #[.string nm] 9 (0,0)) none) (o:=(.cells #[.int .i64 x.n,.string x.t,s] 68 (0,0))) (s:=none) (j:=h.size + 1) (by simp)).trans (get_push_eq (by simp)))
  have gv:=(get_push_eq (h:=(h.push (.cells #[.int .i64 x.n,.string x.t,s] 68 (0,0)) none).push (.cells #[.string nm] 9 (0,0)) none) (o:=(.cells #[.int .i64 x.n,.string x.t,s] 68 (0,0))) (s:=none) (j:=h.size + 1 + 1) (by simp))
  have z1:(((h.push (.cells #[.int .i64 x.n,.string x.t,s] 68 (0,0)) none).push (.cells #[.string nm] 9 (0,0)) none).push (.cells #[.int .i64 x.n,.string x.t,s] 68 (0,0)) none).size=h.size + 3:=by simp
  generalize ((h.push (.cells #[.int .i64 x.n,.string x.t,s] 68 (0,0)) none).push (.cells #[.string nm] 9 (0,0)) none).push (.cells #[.int .i64 x.n,.string x.t,s] 68 (0,0)) none=h1 at K1 gn gv z1 ⊢
  obtain ⟨n',h2,a1,G2,A2,M2⟩:=(S.g.kp K1).appN (x:=.slice (some ⟨h.size + 1,0,none⟩) 1 1) (Src.one gn rfl rfl) (by rw [enl];omega)
  refine bq_of a1 ?_
  have hr2:=G2.row
  have gv2:=(A2.get (h.size + 1 + 1) (by omega) (by omega) (nhas _ (by omega))).trans gv
  have z2:=A2.size
  obtain ⟨x1,x2,x3,rfl⟩:=G2.names.isSl
  simp (disch:=first|exact dz|fail) only [hr2,gv2,SXB,SX,simprocAttr]
  obtain ⟨v',h3,b1,G3,A3,M3⟩:=G2.appV (x:=.slice (some ⟨h.size + 1 + 1,0,none⟩) 1 1) (p:=(nm,x)) (Src.one gv2 wc rfl) hvr (by omega)
  refine bq_of b1 ?_
  have hr3:=G3.row
  obtain ⟨y1,y2,y3,rfl⟩:∃ a n c,v' = .slice a n c:=by obtain ⟨vs,B,_⟩:=G3.vals;exact B.isSl
  simp (disch:=first|exact dz|fail) only [hr3,SXB,SX,simprocAttr]
  exact full h1 h3 _ _ K1 G3 (A2.trans A3 M2) (M2.trans M3 A2.size)
 ·have K1:Kp h.size h (((h.push (.cells #[.int .i64 x.n,.string x.t,s] 68 (0,0)) none).push (.cells #[.int .i64 x.n,.string x.t,s] 68 (0,0)) none).push (.cells #[.string nm] 9 (0,0)) none):=by (repeat (first | exact Kp.refl _ _ | assumption | refine Kp.push ?_ _ _ (by first | omega | (simp only [sz_push,sz_put];omega)) | refine Kp.put ?_ _ _ (by first | omega | (simp only [sz_push,sz_put];omega))))
  have gn:=(get_push_eq (h:=(h.push (.cells #[.int .i64 x.n,.string x.t,s] 68 (0,0)) none).push (.cells #[.int .i64 x.n,.string x.t,s] 68 (0,0)) none) (o:=(.cells #[.string nm] 9 (0,0))) (s:=none) (j:=h.size + 1 + 1) (by simp))
  have gv:=((get_push_ne (h:=(h.push (.cells #[.int .i64 x.n,.string x.t,s] 68 (0,0)) none).push (.cells #[.int .i64 x.n,.string x.t,s] 68 (0,0)) none) (o:=(.cells #[.string nm] 9 (0,0))) (s:=none) (j:=h.size + 1) (by simp)).trans (get_push_eq (by simp)))
  have z1:(((h.push (.cells #[.int .i64 x.n,.string x.t,s] 68 (0,0)) none).push (.cells #[.int .i64 x.n,.string x.t,s] 68 (0,0)) none).push (.cells #[.string nm] 9 (0,0)) none).size=h.size + 3:=by simp
  generalize ((h.push (.cells #[.int .i64 x.n,.string x.t,s] 68 (0,0)) none).push (.cells #[.int .i64 x.n,.string x.t,s] 68 (0,0)) none).push (.cells #[.string nm] 9 (0,0)) none=h1 at K1 gn gv z1 ⊢
  obtain ⟨n',h2,a1,G2,A2,M2⟩:=(S.g.kp K1).appN (x:=.slice (some ⟨h.size + 1 + 1,0,none⟩) 1 1) (Src.one gn rfl rfl) (by rw [enl];omega)
  refine bq_of a1 ?_
  have hr2:=G2.row
  have gv2:=(A2.get (h.size + 1) (by omega) (by omega) (nhas _ (by omega))).trans gv
  have z2:=A2.size
  obtain ⟨x1,x2,x3,rfl⟩:=G2.names.isSl
  simp (disch:=first|exact dz|fail) only [hr2,gv2,SXB,SX,simprocAttr]
  obtain ⟨v',h3,b1,G3,A3,M3⟩:=G2.appV (x:=.slice (some ⟨h.size + 1,0,none⟩) 1 1) (p:=(nm,x)) (Src.one gv2 wc rfl) hvr (by omega)
  refine bq_of b1 ?_
  have hr3:=G3.row
  obtain ⟨y1,y2,y3,rfl⟩:∃ a n c,v' = .slice a n c:=by obtain ⟨vs,B,_⟩:=G3.vals;exact B.isSl
  simp (disch:=first|exact dz|fail) only [hr3,SXB,SX,simprocAttr]
  exact full h1 h3 _ _ K1 G3 (A2.trans A3 M2) (M2.trans M3 A2.size)
end Go.Proofs.YtibigfkeaemanaaGreatDoor.L
end
