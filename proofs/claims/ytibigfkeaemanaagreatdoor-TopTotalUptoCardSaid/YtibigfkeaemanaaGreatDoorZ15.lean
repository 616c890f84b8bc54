import Derived.KernelRfl
import Derived.Test.YtibigfkeaemanaaGreatDoorProg
import Derived.Test.YtibigfkeaemanaaGreatDoorZ14
set_option linter.unusedVariables false
set_option linter.unusedSimpArgs false
section
namespace Go.Proofs.YtibigfkeaemanaaGreatDoor.X
open Go.Ab
set_option maxRecDepth 100000
noncomputable def code35:Code:=match Tryz.f35.body with | some c=>c | none=>.skip
noncomputable def res35:List ResultVar:=Tryz.f35.results.toList
def L35:Nat→Option (List Nat):=fun r=>if r=2 then some [0,1,4,10,11,12] else none
noncomputable def H35_2 (t0 t1 t4 t10 t11 t12:Value) (h:AH) (Q:RQ):Prop:=HL Tryz.prog (cAt code35 [.r,.l,.r,.i,.i]) (mkA 29 [(0,t0),(1,t1),(4,t4),(10,t10),(11,t11),(12,t12)]) h (ctxAt Tryz.prog L35 code35 [.r,.l,.r,.i] (retK Tryz.prog res35 Q))
noncomputable def X35_2 (t0 t1 t4 t10 t11 t12:Value) (h:AH) (Q:RQ):Prop :=
 bq (binV Tryz.prog .lss 3 (.tmp 12) (.tmp 11) t12 t11 h) fun t13 =>
 condP (some t13)
 (let t14:Value:=t12
 bq (ia 1 t10 t12) fun t15 =>
 bq (ld1 h t15) fun t16 =>
 let t5:Value:=t14
 let t6:Value:=t16
 let t17:Value:=t6
 let t18:Value:=t1
 bq (binV Tryz.prog .eql 9 (.tmp 17) (.tmp 18) t17 t18 h) fun t19 =>
 condP (some t19)
 (let t20:Value:=t0
 bq (nilV Tryz.prog t20) fun t21 =>
 bq (fa 1 1 t21) fun t22 =>
 bq (ld1 h t22) fun t23 =>
 let t24:Value:=t5
 bq (ia 3 t23 t24) fun t25 =>
 bq (ldN 3 h t25) fun t26 =>
 bq (stN 3 h t4 t26) fun h=>(fun _ h =>
 bq (seqO [ldN 3 h t4]) fun vs=>Q (.ret (oneOf vs)) h) undef h)
 (bq (binV Tryz.prog .add 3 (.tmp 12) (.const (Value.int .i64 1)) t12 (Value.int .i64 1) h) fun t27 =>
 let t12:Value:=t27
 H35_2 t0 t1 t4 t10 t11 t12 h Q))
 (bq (bd #[(Value.int .i64 0),(Value.string (ByteArray.mk #[])),(Value.slice none 0 0)] []) fun t28 =>
 bq (stN 3 h t4 t28) fun h=>(fun _ h =>
 bq (seqO [ldN 3 h t4]) fun vs=>Q (.ret (oneOf vs)) h) undef h)
theorem X35_2_eq (t0 t1 t4 t10 t11 t12:Value) (h:AH) (Q:RQ):X35_2 t0 t1 t4 t10 t11 t12 h Q=wpC Tryz.prog L35 (cAt code35 [.r,.l,.r,.i,.i]) (mkA 29 [(0,t0),(1,t1),(4,t4),(10,t10),(11,t11),(12,t12)]) h (ctxAt Tryz.prog L35 code35 [.r,.l,.r,.i,.i] (retK Tryz.prog res35 Q)):=by kernel_rfl
theorem X35_2_ok {t0 t1 t4 t10 t11 t12:Value} {h:AH} {Q:RQ} (H:X35_2 t0 t1 t4 t10 t11 t12 h Q):H35_2 t0 t1 t4 t10 t11 t12 h Q:=HL.step (L:=L35) ((X35_2_eq t0 t1 t4 t10 t11 t12 h Q).mp H)
noncomputable def X35 (t0 t1:Value) (h:AH) (Q:RQ):Prop :=
 (fun t4 h =>
 let t7:Value:=t0
 bq (nilV Tryz.prog t7) fun t8 =>
 bq (fa 0 1 t8) fun t9 =>
 bq (ld1 h t9) fun t10 =>
 bq (lenL t10) fun t11 =>
 let t12:Value:=(Value.int .i64 0)
 H35_2 t0 t1 t4 t10 t11 t12 h Q) (opNew h 68 #[(Value.int .i64 0),(Value.string (ByteArray.mk #[])),(Value.slice none 0 0)]).1 (opNew h 68 #[(Value.int .i64 0),(Value.string (ByteArray.mk #[])),(Value.slice none 0 0)]).2
theorem X35_eq (t0 t1:Value) (h:AH) (Q:RQ):X35 t0 t1 h Q=wpC Tryz.prog L35 code35 (argA [t0,t1] Tryz.f35.ntmps) h (retK Tryz.prog res35 Q):=by kernel_rfl
theorem X35_body:Tryz.f35.body=some code35:=by kernel_rfl
theorem X35_ok {t0 t1:Value} {h:AH} {Q:RQ} (H:X35 t0 t1 h Q):HC Tryz.prog 35 [t0,t1].toArray h Q:=HC.body Tryz.func35 X35_body ((X35_eq t0 t1 h Q).mp H)
noncomputable def code66:Code:=match Tryz.f66.body with | some c=>c | none=>.skip
noncomputable def res66:List ResultVar:=Tryz.f66.results.toList
def L66:Nat→Option (List Nat):=fun r=>if r=3 then some [0,3,8] else none
noncomputable def J66_3 (t0 t3 t8:Value) (h:AH) (Q:RQ):Prop:=wpC Tryz.prog L66 (cAt code66 [.r,.r,.r]) (mkA 54 [(0,t0),(3,t3),(8,t8)]) h (ctxAt Tryz.prog L66 code66 [.r,.r,.r] (retK Tryz.prog res66 Q))
noncomputable def K66_3 (t0 t3 t8:Value) (h:AH) (Q:RQ):Prop:=(ctxAt Tryz.prog L66 code66 [.r,.r,.l] (retK Tryz.prog res66 Q)) .normal (mkA 54 [(0,t0),(3,t3),(8,t8)]) h
theorem K66_3_eq (t0 t3 t8:Value) (h:AH) (Q:RQ):J66_3 t0 t3 t8 h Q=K66_3 t0 t3 t8 h Q:=join_eq (p:=[.r,.r]) (code:=code66) (by kernel_rfl) (by kernel_rfl)
noncomputable def X66_3 (t0 t3 t8:Value) (h:AH) (Q:RQ):Prop :=
 let t34:Value:=t3
 callP Tryz.prog t34 [] h (fun t35 h =>
 let t36:Value:=t0
 let t37:Value:=t0
 let t38:Value:=t0
 bq (nilV Tryz.prog t38) fun t39 =>
 bq (fa 0 1 t39) fun t40 =>
 bq (ld1 h t40) fun t41 =>
 let t42:Value:=t8
 bq (sliceV Tryz.prog h 42 t41 none (some t42)) fun t43 =>
 let t44:Value:=t0
 bq (nilV Tryz.prog t44) fun t45 =>
 bq (fa 1 1 t45) fun t46 =>
 bq (ld1 h t46) fun t47 =>
 let t48:Value:=t8
 bq (sliceV Tryz.prog h 76 t47 none (some t48)) fun t49 =>
 bq (nilV Tryz.prog t36) fun t50 =>
 bq (fa 0 1 t50) fun t51 =>
 bq (stN 1 h t51 t43) fun h=>(fun q4_16 h =>
 ((bq (sliceV Tryz.prog h 76 t47 none (some t48)) fun u=>(u=t49))∧(True)) ∧
 bq (nilV Tryz.prog t37) fun t52 =>
 bq (fa 1 1 t52) fun t53 =>
 bq (stN 1 h t53 t49) fun h=>(fun q4_19 h =>
 (True) ∧
 Q (.ret (.tuple [].toArray)) h) undef h) undef h) (fun v h=>Q (.pan v) h)
theorem X66_3_eq (t0 t3 t8:Value) (h:AH) (Q:RQ):X66_3 t0 t3 t8 h Q=wpC Tryz.prog L66 (cAt code66 [.r,.r,.r]) (mkA 54 [(0,t0),(3,t3),(8,t8)]) h (ctxAt Tryz.prog L66 code66 [.r,.r,.r] (retK Tryz.prog res66 Q)):=by kernel_rfl
theorem X66_3_ok {t0 t3 t8:Value} {h:AH} {Q:RQ} (H:X66_3 t0 t3 t8 h Q):K66_3 t0 t3 t8 h Q:=(K66_3_eq t0 t3 t8 h Q).mp (((X66_3_eq t0 t3 t8 h Q).mp H))
noncomputable def X66 (t0 t1 t2 t3:Value) (h:AH) (Q:RQ):Prop :=
 (fun t6 h =>
 let t9:Value:=t0
 bq (nilV Tryz.prog t9) fun t10 =>
 bq (fa 0 1 t10) fun t11 =>
 bq (ld1 h t11) fun t12 =>
 bq (lenL t12) fun t13 =>
 let t8:Value:=t13
 ((let t14:Value:=t0
 let t15:Value:=t0
 let t16:Value:=t0
 bq (nilV Tryz.prog t16) fun t17 =>
 bq (fa 0 1 t17) fun t18 =>
 bq (ld1 h t18) fun t19 =>
 let t20:Value:=t1
 let t23:Value:=t0
 bq (nilV Tryz.prog t23) fun t24 =>
 bq (fa 1 1 t24) fun t25 =>
 bq (ld1 h t25) fun t26 =>
 bq (ldN 3 h t6) fun t27 =>
 bq (bs 9 #[(Value.string (ByteArray.mk #[]))] 1 h [(0,1,t20)]) fun r=>(fun t21 h =>
 ((bq (ldN 3 h t6) fun u=>(u=t27))∧((bq (ld1 h t25) fun u=>(u=t26))∧((bq (ld1 h t18) fun u=>(u=t19))∧(True)))) ∧
 bq (apT 9 1 16 (some (Value.string (ByteArray.mk #[]))) h t19 t21) fun r=>(fun t22 h =>
 ((bq (ldN 3 h t6) fun u=>(u=t27))∧((bq (ld1 h t25) fun u=>(u=t26))∧(True))) ∧
 bq (bs 68 #[(Value.int .i64 0),(Value.string (ByteArray.mk #[])),(Value.slice none 0 0)] 1 h [(0,3,t27)]) fun r=>(fun t28 h =>
 ((bq (ld1 h t25) fun u=>(u=t26))∧(True)) ∧
 bq (apT 68 3 48 (some (Value.agg #[(Value.int .i64 0),(Value.string (ByteArray.mk #[])),(Value.slice none 0 0)])) h t26 t28) fun r=>(fun t29 h =>
 (True) ∧
 bq (nilV Tryz.prog t14) fun t30 =>
 bq (fa 0 1 t30) fun t31 =>
 bq (stN 1 h t31 t22) fun h=>(fun q2_18 h =>
 (True) ∧
 bq (nilV Tryz.prog t15) fun t32 =>
 bq (fa 1 1 t32) fun t33 =>
 bq (stN 1 h t33 t29) fun h=>(fun q2_21 h =>
 (True) ∧
 K66_3 t0 t3 t8 h Q) undef h) undef h) r.1 r.2) r.1 r.2) r.1 r.2) r.1 r.2) ∧
 (let t14:Value:=t0
 let t15:Value:=t0
 let t16:Value:=t0
 bq (nilV Tryz.prog t16) fun t17 =>
 bq (fa 0 1 t17) fun t18 =>
 bq (ld1 h t18) fun t19 =>
 let t20:Value:=t1
 let t23:Value:=t0
 bq (nilV Tryz.prog t23) fun t24 =>
 bq (fa 1 1 t24) fun t25 =>
 bq (ld1 h t25) fun t26 =>
 bq (ldN 3 h t6) fun t27 =>
 bq (bs 9 #[(Value.string (ByteArray.mk #[]))] 1 h [(0,1,t20)]) fun r=>(fun t21 h =>
 ((bq (ldN 3 h t6) fun u=>(u=t27))∧((bq (ld1 h t25) fun u=>(u=t26))∧((bq (ld1 h t18) fun u=>(u=t19))∧(True)))) ∧
 bq (bs 68 #[(Value.int .i64 0),(Value.string (ByteArray.mk #[])),(Value.slice none 0 0)] 1 h [(0,3,t27)]) fun r=>(fun t28 h =>
 ((bq (ld1 h t25) fun u=>(u=t26))∧((bq (ld1 h t18) fun u=>(u=t19))∧(True))) ∧
 bq (apT 9 1 16 (some (Value.string (ByteArray.mk #[]))) h t19 t21) fun r=>(fun t22 h =>
 ((bq (ld1 h t25) fun u=>(u=t26))∧(True)) ∧
 bq (apT 68 3 48 (some (Value.agg #[(Value.int .i64 0),(Value.string (ByteArray.mk #[])),(Value.slice none 0 0)])) h t26 t28) fun r=>(fun t29 h =>
 (True) ∧
 bq (nilV Tryz.prog t14) fun t30 =>
 bq (fa 0 1 t30) fun t31 =>
 bq (stN 1 h t31 t22) fun h=>(fun q2_18 h =>
 (True) ∧
 bq (nilV Tryz.prog t15) fun t32 =>
 bq (fa 1 1 t32) fun t33 =>
 bq (stN 1 h t33 t29) fun h=>(fun q2_21 h =>
 (True) ∧
 K66_3 t0 t3 t8 h Q) undef h) undef h) r.1 r.2) r.1 r.2) r.1 r.2) r.1 r.2)) ∧
 (let t14:Value:=t0
 let t15:Value:=t0
 let t16:Value:=t0
 bq (nilV Tryz.prog t16) fun t17 =>
 bq (fa 0 1 t17) fun t18 =>
 bq (ld1 h t18) fun t19 =>
 let t20:Value:=t1
 let t23:Value:=t0
 bq (nilV Tryz.prog t23) fun t24 =>
 bq (fa 1 1 t24) fun t25 =>
 bq (ld1 h t25) fun t26 =>
 bq (ldN 3 h t6) fun t27 =>
 bq (bs 68 #[(Value.int .i64 0),(Value.string (ByteArray.mk #[])),(Value.slice none 0 0)] 1 h [(0,3,t27)]) fun r=>(fun t28 h =>
 ((bq (ld1 h t25) fun u=>(u=t26))∧((bq (ld1 h t18) fun u=>(u=t19))∧(True))) ∧
 bq (bs 9 #[(Value.string (ByteArray.mk #[]))] 1 h [(0,1,t20)]) fun r=>(fun t21 h =>
 ((bq (ld1 h t25) fun u=>(u=t26))∧((bq (ld1 h t18) fun u=>(u=t19))∧(True))) ∧
 bq (apT 9 1 16 (some (Value.string (ByteArray.mk #[]))) h t19 t21) fun r=>(fun t22 h =>
 ((bq (ld1 h t25) fun u=>(u=t26))∧(True)) ∧
 bq (apT 68 3 48 (some (Value.agg #[(Value.int .i64 0),(Value.string (ByteArray.mk #[])),(Value.slice none 0 0)])) h t26 t28) fun r=>(fun t29 h =>
 (True) ∧
 bq (nilV Tryz.prog t14) fun t30 =>
 bq (fa 0 1 t30) fun t31 =>
 bq (stN 1 h t31 t22) fun h=>(fun q2_18 h =>
 (True) ∧
 bq (nilV Tryz.prog t15) fun t32 =>
 bq (fa 1 1 t32) fun t33 =>
 bq (stN 1 h t33 t29) fun h=>(fun q2_21 h =>
 (True) ∧
 K66_3 t0 t3 t8 h Q) undef h) undef h) r.1 r.2) r.1 r.2) r.1 r.2) r.1 r.2)) (opNew h 68 t2.cells).1 (opNew h 68 t2.cells).2
theorem X66_eq (t0 t1 t2 t3:Value) (h:AH) (Q:RQ):X66 t0 t1 t2 t3 h Q=wpC Tryz.prog L66 code66 (argA [t0,t1,t2,t3] Tryz.f66.ntmps) h (retK Tryz.prog res66 Q):=by kernel_rfl
theorem X66_body:Tryz.f66.body=some code66:=by kernel_rfl
theorem X66_ok {t0 t1 t2 t3:Value} {h:AH} {Q:RQ} (H:X66 t0 t1 t2 t3 h Q):HC Tryz.prog 66 [t0,t1,t2,t3].toArray h Q:=HC.body Tryz.func66 X66_body ((X66_eq t0 t1 t2 t3 h Q).mp H)
noncomputable def code22:Code:=match Tryz.f22.body with | some c=>c | none=>.skip
noncomputable def res22:List ResultVar:=Tryz.f22.results.toList
def L22:Nat→Option (List Nat):=fun r=>none
noncomputable def X22 (t0:Value) (h:AH) (Q:RQ):Prop :=
 let t2:Value:=(Value.int .i64 0)
 let t3:Value:=t0
 (if [t3,(Value.int .i64 (-1099511627776))].all (plainN 12) then bq (flatV Tryz.prog (Builtin.max_ #[3,3] 3 [t3,(Value.int .i64 (-1099511627776))].toArray)) fun t4 =>
 (if [t4,(Value.int .i64 1099511627776)].all (plainN 12) then bq (flatV Tryz.prog (Builtin.min_ #[3,3] 3 [t4,(Value.int .i64 1099511627776)].toArray)) fun t5 =>
 let t2:Value:=t5
 Q (.ret t2) h else False) else False)
theorem X22_eq (t0:Value) (h:AH) (Q:RQ):X22 t0 h Q=wpC Tryz.prog L22 code22 (argA [t0] Tryz.f22.ntmps) h (retK Tryz.prog res22 Q):=by kernel_rfl
theorem X22_body:Tryz.f22.body=some code22:=by kernel_rfl
theorem X22_ok {t0:Value} {h:AH} {Q:RQ} (H:X22 t0 h Q):HC Tryz.prog 22 [t0].toArray h Q:=HC.body Tryz.func22 X22_body ((X22_eq t0 h Q).mp H)
noncomputable def code52:Code:=match Tryz.f52.body with | some c=>c | none=>.skip
noncomputable def res52:List ResultVar:=Tryz.f52.results.toList
def L52:Nat→Option (List Nat):=fun r=>none
noncomputable def X52 (t0:Value) (h:AH) (Q:RQ):Prop :=
 let t2:Value:=(Value.string (ByteArray.mk #[]))
 let t3:Value:=t0
 let t4:Value:=t0
 bq (lenS t4) fun t5 =>
 (if [t5,(Value.int .i64 4096)].all (plainN 12) then bq (flatV Tryz.prog (Builtin.min_ #[3,3] 3 [t5,(Value.int .i64 4096)].toArray)) fun t6 =>
 bq (sliceV Tryz.prog h 9 t3 none (some t6)) fun t7 =>
 let t2:Value:=t7
 Q (.ret t2) h else False)
theorem X52_eq (t0:Value) (h:AH) (Q:RQ):X52 t0 h Q=wpC Tryz.prog L52 code52 (argA [t0] Tryz.f52.ntmps) h (retK Tryz.prog res52 Q):=by kernel_rfl
theorem X52_body:Tryz.f52.body=some code52:=by kernel_rfl
theorem X52_ok {t0:Value} {h:AH} {Q:RQ} (H:X52 t0 h Q):HC Tryz.prog 52 [t0].toArray h Q:=HC.body Tryz.func52 X52_body ((X52_eq t0 h Q).mp H)
noncomputable def code36:Code:=match Tryz.f36.body with | some c=>c | none=>.skip
noncomputable def res36:List ResultVar:=Tryz.f36.results.toList
def L36:Nat→Option (List Nat):=fun r=>none
noncomputable def X36 (t0 t1:Value) (h:AH) (Q:RQ):Prop :=
 let t4:Value:=(Value.int .i64 0)
 let t6:Value:=t0
 bq (binV Tryz.prog .eql 3 (.tmp 6) (.const (Value.int .i64 0)) t6 (Value.int .i64 0) h) fun t7 =>
 let t8:Value:=t7
 guardQ t8 false h (fun k=>k t1 h) fun t9 h =>
 guardQ t8 false h (fun k=>bq (binV Tryz.prog .eql 3 (.tmp 9) (.const (Value.int .i64 0)) t9 (Value.int .i64 0) h) fun v=>k v h) fun t10 h =>
 bq (pickV t8 (Value.bool true) t10) fun t11 =>
 condP (some t11)
 (let t4:Value:=(Value.int .i64 0)
 Q (.ret t4) h)
 (let t12:Value:=t0
 let t13:Value:=t1
 bq (binV Tryz.prog .mul 3 (.tmp 12) (.tmp 13) t12 t13 h) fun t14 =>
 let t5:Value:=t14
 let t15:Value:=t5
 let t16:Value:=t1
 bq (binV Tryz.prog .quo 3 (.tmp 15) (.tmp 16) t15 t16 h) fun t17 =>
 let t18:Value:=t0
 bq (binV Tryz.prog .eql 3 (.tmp 17) (.tmp 18) t17 t18 h) fun t19 =>
 let t20:Value:=t19
 guardQ t20 true h (fun k=>k t5 h) fun t21 h =>
 guardQ t20 true h (fun k=>HC Tryz.prog 22 (([]:List Value)++[t21]++([]:List Value)).toArray h (resK k (fun v h=>Q (.pan v) h))) fun t22 h =>
 guardQ t20 true h (fun k=>k t5 h) fun t23 h =>
 guardQ t20 true h (fun k=>bq (binV Tryz.prog .eql 3 (.tmp 22) (.tmp 23) t22 t23 h) fun v=>k v h) fun t24 h =>
 bq (pickV t20 t24 (Value.bool false)) fun t25 =>
 condP (some t25)
 (let t26:Value:=t5
 let t4:Value:=t26
 Q (.ret t4) h)
 (let t27:Value:=t0
 bq (binV Tryz.prog .lss 3 (.tmp 27) (.const (Value.int .i64 0)) t27 (Value.int .i64 0) h) fun t28 =>
 let t29:Value:=t1
 bq (binV Tryz.prog .lss 3 (.tmp 29) (.const (Value.int .i64 0)) t29 (Value.int .i64 0) h) fun t30 =>
 bq (binV Tryz.prog .eql 4 (.tmp 28) (.tmp 30) t28 t30 h) fun t31 =>
 condP (some t31)
 (let t4:Value:=(Value.int .i64 1099511627776)
 Q (.ret t4) h)
 (let t4:Value:=(Value.int .i64 (-1099511627776))
 Q (.ret t4) h)))
theorem X36_eq (t0 t1:Value) (h:AH) (Q:RQ):X36 t0 t1 h Q=wpC Tryz.prog L36 code36 (argA [t0,t1] Tryz.f36.ntmps) h (retK Tryz.prog res36 Q):=by kernel_rfl
theorem X36_body:Tryz.f36.body=some code36:=by kernel_rfl
theorem X36_ok {t0 t1:Value} {h:AH} {Q:RQ} (H:X36 t0 t1 h Q):HC Tryz.prog 36 [t0,t1].toArray h Q:=HC.body Tryz.func36 X36_body ((X36_eq t0 t1 h Q).mp H)
noncomputable def code51:Code:=match Tryz.f51.body with | some c=>c | none=>.skip
noncomputable def res51:List ResultVar:=Tryz.f51.results.toList
def L51:Nat→Option (List Nat):=fun r=>if r=9 then some [4,5] else none
noncomputable def J51_9 (t4 t5:Value) (h:AH) (Q:RQ):Prop:=wpC Tryz.prog L51 (cAt code51 [.r,.r,.r,.r,.r]) (mkA 37 [(4,t4),(5,t5)]) h (ctxAt Tryz.prog L51 code51 [.r,.r,.r,.r,.r] (retK Tryz.prog res51 Q))
noncomputable def K51_9 (t4 t5:Value) (h:AH) (Q:RQ):Prop:=(ctxAt Tryz.prog L51 code51 [.r,.r,.r,.r,.l] (retK Tryz.prog res51 Q)) .normal (mkA 37 [(4,t4),(5,t5)]) h
theorem K51_9_eq (t4 t5:Value) (h:AH) (Q:RQ):J51_9 t4 t5 h Q=K51_9 t4 t5 h Q:=join_eq (p:=[.r,.r,.r,.r]) (code:=code51) (by kernel_rfl) (by kernel_rfl)
noncomputable def X51_9 (t4 t5:Value) (h:AH) (Q:RQ):Prop :=
 let t33:Value:=t4
 condP (some t33)
 (let t34:Value:=t5
 bq (unV Tryz.prog .neg t34) fun t35 =>
 let t2:Value:=t35
 Q (.ret t2) h)
 (let t36:Value:=t5
 let t2:Value:=t36
 Q (.ret t2) h)
theorem X51_9_eq (t4 t5:Value) (h:AH) (Q:RQ):X51_9 t4 t5 h Q=wpC Tryz.prog L51 (cAt code51 [.r,.r,.r,.r,.r]) (mkA 37 [(4,t4),(5,t5)]) h (ctxAt Tryz.prog L51 code51 [.r,.r,.r,.r,.r] (retK Tryz.prog res51 Q)):=by kernel_rfl
theorem X51_9_ok {t4 t5:Value} {h:AH} {Q:RQ} (H:X51_9 t4 t5 h Q):K51_9 t4 t5 h Q:=(K51_9_eq t4 t5 h Q).mp (((X51_9_eq t4 t5 h Q).mp H))
noncomputable def X51 (t0:Value) (h:AH) (Q:RQ):Prop :=
 let t2:Value:=(Value.int .i64 0)
 let t9:Value:=t0
 HC Tryz.prog 69 (([]:List Value)++[t9,(Value.string (ByteArray.mk #[45]))]++([]:List Value)).toArray h (resK (fun t10 h =>
 let t8:Value:=t10
 bq (opExtract t8 0) fun t11 =>
 bq (opExtract t8 1) fun t12 =>
 let t3:Value:=t11
 let t4:Value:=t12
 let t13:Value:=t3
 bq (binV Tryz.prog .eql 9 (.tmp 13) (.const (Value.string (ByteArray.mk #[]))) t13 (Value.string (ByteArray.mk #[])) h) fun t14 =>
 let t15:Value:=t14
 guardQ t15 false h (fun k=>k t3 h) fun t16 h =>
 guardQ t15 false h (fun k=>HC Tryz.prog 70 (([]:List Value)++[t16,(Value.string (ByteArray.mk #[48,49,50,51,52,53,54,55,56,57]))]++([]:List Value)).toArray h (resK k (fun v h=>Q (.pan v) h))) fun t17 h =>
 guardQ t15 false h (fun k=>bq (binV Tryz.prog .neq 9 (.tmp 17) (.const (Value.string (ByteArray.mk #[]))) t17 (Value.string (ByteArray.mk #[])) h) fun v=>k v h) fun t18 h =>
 bq (pickV t15 (Value.bool true) t18) fun t19 =>
 condP (some t19)
 (let t2:Value:=(Value.int .i64 0)
 Q (.ret t2) h)
 (let t5:Value:=(Value.int .i64 1099511627776)
 let t20:Value:=t3
 HC Tryz.prog 71 (([]:List Value)++[t20,(Value.string (ByteArray.mk #[48]))]++([]:List Value)).toArray h (resK (fun t21 h =>
 let t3:Value:=t21
 let t22:Value:=t3
 bq (lenS t22) fun t23 =>
 bq (binV Tryz.prog .lss 3 (.tmp 23) (.const (Value.int .i64 18)) t23 (Value.int .i64 18) h) fun t24 =>
 condP (some t24)
 (let t26:Value:=t3
 bq (binV Tryz.prog .add 9 (.const (Value.string (ByteArray.mk #[48]))) (.tmp 26) (Value.string (ByteArray.mk #[48])) t26 h) fun t27 =>
 HC Tryz.prog 60 (([]:List Value)++[t27]++([]:List Value)).toArray h (resK (fun t28 h =>
 let t25:Value:=t28
 bq (opExtract t25 0) fun t29 =>
 bq (opExtract t25 1) fun t30 =>
 let t6:Value:=t29
 let t7:Value:=t30
 let t31:Value:=t6
 HC Tryz.prog 22 (([]:List Value)++[t31]++([]:List Value)).toArray h (resK (fun t32 h =>
 let t5:Value:=t32
 K51_9 t4 t5 h Q) (fun v h=>Q (.pan v) h))) (fun v h=>Q (.pan v) h)))
 (K51_9 t4 t5 h Q)) (fun v h=>Q (.pan v) h)))) (fun v h=>Q (.pan v) h))
theorem X51_eq (t0:Value) (h:AH) (Q:RQ):X51 t0 h Q=wpC Tryz.prog L51 code51 (argA [t0] Tryz.f51.ntmps) h (retK Tryz.prog res51 Q):=by kernel_rfl
theorem X51_body:Tryz.f51.body=some code51:=by kernel_rfl
theorem X51_ok {t0:Value} {h:AH} {Q:RQ} (H:X51 t0 h Q):HC Tryz.prog 51 [t0].toArray h Q:=HC.body Tryz.func51 X51_body ((X51_eq t0 h Q).mp H)
noncomputable def code37:Code:=match Tryz.f37.body with | some c=>c | none=>.skip
noncomputable def res37:List ResultVar:=Tryz.f37.results.toList
def L37:Nat→Option (List Nat):=fun r=>none
noncomputable def X37 (t0:Value) (h:AH) (Q:RQ):Prop :=
 let t2:Value:=(Value.int .i64 0)
 let t3:Value:=t0
 condP (some t3)
 (let t2:Value:=(Value.int .i64 1)
 Q (.ret t2) h)
 (let t2:Value:=(Value.int .i64 0)
 Q (.ret t2) h)
theorem X37_eq (t0:Value) (h:AH) (Q:RQ):X37 t0 h Q=wpC Tryz.prog L37 code37 (argA [t0] Tryz.f37.ntmps) h (retK Tryz.prog res37 Q):=by kernel_rfl
theorem X37_body:Tryz.f37.body=some code37:=by kernel_rfl
theorem X37_ok {t0:Value} {h:AH} {Q:RQ} (H:X37 t0 h Q):HC Tryz.prog 37 [t0].toArray h Q:=HC.body Tryz.func37 X37_body ((X37_eq t0 h Q).mp H)
noncomputable def code38:Code:=match Tryz.f38.body with | some c=>c | none=>.skip
noncomputable def res38:List ResultVar:=Tryz.f38.results.toList
def L38:Nat→Option (List Nat):=fun r=>if r=5 then some [1,4,5,17,18,19] else none
noncomputable def H38_5 (t1 t4 t5 t17 t18 t19:Value) (h:AH) (Q:RQ):Prop:=HL Tryz.prog (cAt code38 [.r,.r,.r,.l,.r,.i,.i]) (mkA 32 [(1,t1),(4,t4),(5,t5),(17,t17),(18,t18),(19,t19)]) h (ctxAt Tryz.prog L38 code38 [.r,.r,.r,.l,.r,.i] (retK Tryz.prog res38 Q))
noncomputable def X38_5 (t1 t4 t5 t17 t18 t19:Value) (h:AH) (Q:RQ):Prop :=
 bq (binV Tryz.prog .lss 3 (.tmp 19) (.tmp 18) t19 t18 h) fun t20 =>
 condP (some t20)
 (bq (ia 1 t17 t19) fun t21 =>
 bq (ld1 h t21) fun t22 =>
 let t7:Value:=t22
 let t23:Value:=t1
 let t24:Value:=t5
 let t25:Value:=t7
 HC Tryz.prog 51 (([]:List Value)++[t25]++([]:List Value)).toArray h (resK (fun t26 h =>
 callP Tryz.prog t23 [t24,t26] h (fun t27 h =>
 HC Tryz.prog 22 (([]:List Value)++[t27]++([]:List Value)).toArray h (resK (fun t28 h =>
 let t5:Value:=t28
 bq (binV Tryz.prog .add 3 (.tmp 19) (.const (Value.int .i64 1)) t19 (Value.int .i64 1) h) fun t29 =>
 let t19:Value:=t29
 H38_5 t1 t4 t5 t17 t18 t19 h Q) (fun v h=>Q (.pan v) h))) (fun v h=>Q (.pan v) h)) (fun v h=>Q (.pan v) h)))
 (let t30:Value:=t5
 bq (bd #[(Value.int .i64 0),(Value.string (ByteArray.mk #[])),(Value.slice none 0 0)] [(0,1,t30)]) fun t31 =>
 bq (stN 3 h t4 t31) fun h=>(fun _ h =>
 bq (seqO [ldN 3 h t4]) fun vs=>Q (.ret (oneOf vs)) h) undef h)
theorem X38_5_eq (t1 t4 t5 t17 t18 t19:Value) (h:AH) (Q:RQ):X38_5 t1 t4 t5 t17 t18 t19 h Q=wpC Tryz.prog L38 (cAt code38 [.r,.r,.r,.l,.r,.i,.i]) (mkA 32 [(1,t1),(4,t4),(5,t5),(17,t17),(18,t18),(19,t19)]) h (ctxAt Tryz.prog L38 code38 [.r,.r,.r,.l,.r,.i,.i] (retK Tryz.prog res38 Q)):=by kernel_rfl
theorem X38_5_ok {t1 t4 t5 t17 t18 t19:Value} {h:AH} {Q:RQ} (H:X38_5 t1 t4 t5 t17 t18 t19 h Q):H38_5 t1 t4 t5 t17 t18 t19 h Q:=HL.step (L:=L38) ((X38_5_eq t1 t4 t5 t17 t18 t19 h Q).mp H)
noncomputable def X38 (t0 t1:Value) (h:AH) (Q:RQ):Prop :=
 (fun t4 h =>
 let t8:Value:=t0
 bq (lenL t8) fun t9 =>
 bq (binV Tryz.prog .eql 3 (.tmp 9) (.const (Value.int .i64 0)) t9 (Value.int .i64 0) h) fun t10 =>
 condP (some t10)
 (bq (bd #[(Value.int .i64 0),(Value.string (ByteArray.mk #[])),(Value.slice none 0 0)] []) fun t11 =>
 bq (stN 3 h t4 t11) fun h=>(fun _ h =>
 bq (seqO [ldN 3 h t4]) fun vs=>Q (.ret (oneOf vs)) h) undef h)
 (let t12:Value:=t0
 bq (ia 1 t12 (Value.int .i64 0)) fun t13 =>
 bq (ld1 h t13) fun t14 =>
 HC Tryz.prog 51 (([]:List Value)++[t14]++([]:List Value)).toArray h (resK (fun t15 h =>
 let t5:Value:=t15
 let t16:Value:=t0
 bq (sliceV Tryz.prog h 42 t16 (some (Value.int .i64 1)) none) fun t17 =>
 bq (lenL t17) fun t18 =>
 let t19:Value:=(Value.int .i64 0)
 H38_5 t1 t4 t5 t17 t18 t19 h Q) (fun v h=>Q (.pan v) h)))) (opNew h 68 #[(Value.int .i64 0),(Value.string (ByteArray.mk #[])),(Value.slice none 0 0)]).1 (opNew h 68 #[(Value.int .i64 0),(Value.string (ByteArray.mk #[])),(Value.slice none 0 0)]).2
theorem X38_eq (t0 t1:Value) (h:AH) (Q:RQ):X38 t0 t1 h Q=wpC Tryz.prog L38 code38 (argA [t0,t1] Tryz.f38.ntmps) h (retK Tryz.prog res38 Q):=by kernel_rfl
theorem X38_body:Tryz.f38.body=some code38:=by kernel_rfl
theorem X38_ok {t0 t1:Value} {h:AH} {Q:RQ} (H:X38 t0 t1 h Q):HC Tryz.prog 38 [t0,t1].toArray h Q:=HC.body Tryz.func38 X38_body ((X38_eq t0 t1 h Q).mp H)
noncomputable def code39:Code:=match Tryz.f39.body with | some c=>c | none=>.skip
noncomputable def res39:List ResultVar:=Tryz.f39.results.toList
def L39:Nat→Option (List Nat):=fun r=>none
noncomputable def X39 (t0 t1:Value) (h:AH) (Q:RQ):Prop :=
 let t4:Value:=(Value.int .i64 0)
 let t5:Value:=t0
 let t6:Value:=t1
 bq (binV Tryz.prog .add 3 (.tmp 5) (.tmp 6) t5 t6 h) fun t7 =>
 let t4:Value:=t7
 Q (.ret t4) h
theorem X39_eq (t0 t1:Value) (h:AH) (Q:RQ):X39 t0 t1 h Q=wpC Tryz.prog L39 code39 (argA [t0,t1] Tryz.f39.ntmps) h (retK Tryz.prog res39 Q):=by kernel_rfl
theorem X39_body:Tryz.f39.body=some code39:=by kernel_rfl
theorem X39_ok {t0 t1:Value} {h:AH} {Q:RQ} (H:X39 t0 t1 h Q):HC Tryz.prog 39 [t0,t1].toArray h Q:=HC.body Tryz.func39 X39_body ((X39_eq t0 t1 h Q).mp H)
noncomputable def code40:Code:=match Tryz.f40.body with | some c=>c | none=>.skip
noncomputable def res40:List ResultVar:=Tryz.f40.results.toList
def L40:Nat→Option (List Nat):=fun r=>none
noncomputable def X40 (t0 t1:Value) (h:AH) (Q:RQ):Prop :=
 let t4:Value:=(Value.int .i64 0)
 let t5:Value:=t0
 let t6:Value:=t1
 (if [t5,t6].all (plainN 12) then bq (flatV Tryz.prog (Builtin.max_ #[3,3] 3 [t5,t6].toArray)) fun t7 =>
 let t4:Value:=t7
 Q (.ret t4) h else False)
theorem X40_eq (t0 t1:Value) (h:AH) (Q:RQ):X40 t0 t1 h Q=wpC Tryz.prog L40 code40 (argA [t0,t1] Tryz.f40.ntmps) h (retK Tryz.prog res40 Q):=by kernel_rfl
theorem X40_body:Tryz.f40.body=some code40:=by kernel_rfl
theorem X40_ok {t0 t1:Value} {h:AH} {Q:RQ} (H:X40 t0 t1 h Q):HC Tryz.prog 40 [t0,t1].toArray h Q:=HC.body Tryz.func40 X40_body ((X40_eq t0 t1 h Q).mp H)
noncomputable def code41:Code:=match Tryz.f41.body with | some c=>c | none=>.skip
noncomputable def res41:List ResultVar:=Tryz.f41.results.toList
def L41:Nat→Option (List Nat):=fun r=>none
noncomputable def X41 (t0 t1:Value) (h:AH) (Q:RQ):Prop :=
 let t4:Value:=(Value.int .i64 0)
 let t5:Value:=t0
 let t6:Value:=t1
 (if [t5,t6].all (plainN 12) then bq (flatV Tryz.prog (Builtin.min_ #[3,3] 3 [t5,t6].toArray)) fun t7 =>
 let t4:Value:=t7
 Q (.ret t4) h else False)
theorem X41_eq (t0 t1:Value) (h:AH) (Q:RQ):X41 t0 t1 h Q=wpC Tryz.prog L41 code41 (argA [t0,t1] Tryz.f41.ntmps) h (retK Tryz.prog res41 Q):=by kernel_rfl
theorem X41_body:Tryz.f41.body=some code41:=by kernel_rfl
theorem X41_ok {t0 t1:Value} {h:AH} {Q:RQ} (H:X41 t0 t1 h Q):HC Tryz.prog 41 [t0,t1].toArray h Q:=HC.body Tryz.func41 X41_body ((X41_eq t0 t1 h Q).mp H)
noncomputable def code42:Code:=match Tryz.f42.body with | some c=>c | none=>.skip
noncomputable def res42:List ResultVar:=Tryz.f42.results.toList
def L42:Nat→Option (List Nat):=fun r=>none
noncomputable def X42 (t0 t1:Value) (h:AH) (Q:RQ):Prop :=
 (fun t4 h =>
 let t5:Value:=t0
 bq (lenL t5) fun t6 =>
 bq (binV Tryz.prog .eql 3 (.tmp 6) (.const (Value.int .i64 0)) t6 (Value.int .i64 0) h) fun t7 =>
 condP (some t7)
 (bq (bd #[(Value.int .i64 0),(Value.string (ByteArray.mk #[])),(Value.slice none 0 0)] []) fun t8 =>
 bq (stN 3 h t4 t8) fun h=>(fun _ h =>
 bq (seqO [ldN 3 h t4]) fun vs=>Q (.ret (oneOf vs)) h) undef h)
 (let t9:Value:=t1
 condP (some t9)
 (let t10:Value:=t0
 let t11:Value:=t0
 bq (lenL t11) fun t12 =>
 bq (binV Tryz.prog .sub 3 (.tmp 12) (.const (Value.int .i64 1)) t12 (Value.int .i64 1) h) fun t13 =>
 bq (ia 1 t10 t13) fun t14 =>
 bq (ld1 h t14) fun t15 =>
 HC Tryz.prog 52 (([]:List Value)++[t15]++([]:List Value)).toArray h (resK (fun t16 h =>
 bq (bd #[(Value.int .i64 0),(Value.string (ByteArray.mk #[])),(Value.slice none 0 0)] [(1,1,t16)]) fun t17 =>
 bq (stN 3 h t4 t17) fun h=>(fun _ h =>
 bq (seqO [ldN 3 h t4]) fun vs=>Q (.ret (oneOf vs)) h) undef h) (fun v h=>Q (.pan v) h)))
 (let t18:Value:=t0
 bq (ia 1 t18 (Value.int .i64 0)) fun t19 =>
 bq (ld1 h t19) fun t20 =>
 HC Tryz.prog 52 (([]:List Value)++[t20]++([]:List Value)).toArray h (resK (fun t21 h =>
 bq (bd #[(Value.int .i64 0),(Value.string (ByteArray.mk #[])),(Value.slice none 0 0)] [(1,1,t21)]) fun t22 =>
 bq (stN 3 h t4 t22) fun h=>(fun _ h =>
 bq (seqO [ldN 3 h t4]) fun vs=>Q (.ret (oneOf vs)) h) undef h) (fun v h=>Q (.pan v) h))))) (opNew h 68 #[(Value.int .i64 0),(Value.string (ByteArray.mk #[])),(Value.slice none 0 0)]).1 (opNew h 68 #[(Value.int .i64 0),(Value.string (ByteArray.mk #[])),(Value.slice none 0 0)]).2
theorem X42_eq (t0 t1:Value) (h:AH) (Q:RQ):X42 t0 t1 h Q=wpC Tryz.prog L42 code42 (argA [t0,t1] Tryz.f42.ntmps) h (retK Tryz.prog res42 Q):=by kernel_rfl
theorem X42_body:Tryz.f42.body=some code42:=by kernel_rfl
theorem X42_ok {t0 t1:Value} {h:AH} {Q:RQ} (H:X42 t0 t1 h Q):HC Tryz.prog 42 [t0,t1].toArray h Q:=HC.body Tryz.func42 X42_body ((X42_eq t0 t1 h Q).mp H)
noncomputable def code43:Code:=match Tryz.f43.body with | some c=>c | none=>.skip
noncomputable def res43:List ResultVar:=Tryz.f43.results.toList
def L43:Nat→Option (List Nat):=fun r=>if r=3 then some [1,5,8,9,10] else if r=7 then some [1,5,7,8,9,10] else if r=10 then some [5] else none
noncomputable def H43_3 (t1 t5 t8 t9 t10:Value) (h:AH) (Q:RQ):Prop:=HL Tryz.prog (cAt code43 [.r,.r,.l,.r,.i,.i]) (mkA 28 [(1,t1),(5,t5),(8,t8),(9,t9),(10,t10)]) h (ctxAt Tryz.prog L43 code43 [.r,.r,.l,.r,.i] (retK Tryz.prog res43 Q))
noncomputable def J43_7 (t1 t5 t7 t8 t9 t10:Value) (h:AH) (Q:RQ):Prop:=wpC Tryz.prog L43 (cAt code43 [.r,.r,.l,.r,.i,.i,.r,.r,.l,.i,.r,.r]) (mkA 28 [(1,t1),(5,t5),(7,t7),(8,t8),(9,t9),(10,t10)]) h (ctxAt Tryz.prog L43 code43 [.r,.r,.l,.r,.i,.i,.r,.r,.l,.i,.r,.r] (retK Tryz.prog res43 Q))
noncomputable def K43_7 (t1 t5 t7 t8 t9 t10:Value) (h:AH) (Q:RQ):Prop:=(ctxAt Tryz.prog L43 code43 [.r,.r,.l,.r,.i,.i,.r,.r,.l,.i,.r,.l] (retK Tryz.prog res43 Q)) .normal (mkA 28 [(1,t1),(5,t5),(7,t7),(8,t8),(9,t9),(10,t10)]) h
theorem K43_7_eq (t1 t5 t7 t8 t9 t10:Value) (h:AH) (Q:RQ):J43_7 t1 t5 t7 t8 t9 t10 h Q=K43_7 t1 t5 t7 t8 t9 t10 h Q:=join_eq (p:=[.r,.r,.l,.r,.i,.i,.r,.r,.l,.i,.r]) (code:=code43) (by kernel_rfl) (by kernel_rfl)
noncomputable def J43_10 (t5:Value) (h:AH) (Q:RQ):Prop:=wpC Tryz.prog L43 (cAt code43 [.r,.r,.r]) (mkA 28 [(5,t5)]) h (ctxAt Tryz.prog L43 code43 [.r,.r,.r] (retK Tryz.prog res43 Q))
noncomputable def K43_10 (t5:Value) (h:AH) (Q:RQ):Prop:=(ctxAt Tryz.prog L43 code43 [.r,.r,.l] (retK Tryz.prog res43 Q)) .normal (mkA 28 [(5,t5)]) h
theorem K43_10_eq (t5:Value) (h:AH) (Q:RQ):J43_10 t5 h Q=K43_10 t5 h Q:=join_eq (p:=[.r,.r]) (code:=code43) (by kernel_rfl) (by kernel_rfl)
noncomputable def X43_10 (t5:Value) (h:AH) (Q:RQ):Prop :=
 HC Tryz.prog 55 (([]:List Value)++[t5]++([]:List Value)).toArray h (resK (fun t26 h =>
 HC Tryz.prog 52 (([]:List Value)++[t26]++([]:List Value)).toArray h (resK (fun t27 h =>
 let t4:Value:=t27
 Q (.ret t4) h) (fun v h=>Q (.pan v) h))) (fun v h=>Q (.pan v) h))
theorem X43_10_eq (t5:Value) (h:AH) (Q:RQ):X43_10 t5 h Q=wpC Tryz.prog L43 (cAt code43 [.r,.r,.r]) (mkA 28 [(5,t5)]) h (ctxAt Tryz.prog L43 code43 [.r,.r,.r] (retK Tryz.prog res43 Q)):=by kernel_rfl
theorem X43_10_ok {t5:Value} {h:AH} {Q:RQ} (H:X43_10 t5 h Q):K43_10 t5 h Q:=(K43_10_eq t5 h Q).mp (((X43_10_eq t5 h Q).mp H))
noncomputable def X43_7 (t1 t5 t7 t8 t9 t10:Value) (h:AH) (Q:RQ):Prop :=
 let t20:Value:=t7
 HC Tryz.prog 52 (([]:List Value)++[t20]++([]:List Value)).toArray h (resK (fun t21 h =>
 HC Tryz.prog 53 (([]:List Value)++[t5,t21]++([]:List Value)).toArray h (resK (fun t22 h =>
 HC Tryz.prog 54 (([]:List Value)++[t5]++([]:List Value)).toArray h (resK (fun t23 h =>
 bq (binV Tryz.prog .geq 3 (.tmp 23) (.const (Value.int .i64 4096)) t23 (Value.int .i64 4096) h) fun t24 =>
 condP (some t24)
 (K43_10 t5 h Q)
 (bq (binV Tryz.prog .add 3 (.tmp 10) (.const (Value.int .i64 1)) t10 (Value.int .i64 1) h) fun t25 =>
 let t10:Value:=t25
 H43_3 t1 t5 t8 t9 t10 h Q)) (fun v h=>Q (.pan v) h))) (fun v h=>Q (.pan v) h))) (fun v h=>Q (.pan v) h))
theorem X43_7_eq (t1 t5 t7 t8 t9 t10:Value) (h:AH) (Q:RQ):X43_7 t1 t5 t7 t8 t9 t10 h Q=wpC Tryz.prog L43 (cAt code43 [.r,.r,.l,.r,.i,.i,.r,.r,.l,.i,.r,.r]) (mkA 28 [(1,t1),(5,t5),(7,t7),(8,t8),(9,t9),(10,t10)]) h (ctxAt Tryz.prog L43 code43 [.r,.r,.l,.r,.i,.i,.r,.r,.l,.i,.r,.r] (retK Tryz.prog res43 Q)):=by kernel_rfl
theorem X43_7_ok {t1 t5 t7 t8 t9 t10:Value} {h:AH} {Q:RQ} (H:X43_7 t1 t5 t7 t8 t9 t10 h Q):K43_7 t1 t5 t7 t8 t9 t10 h Q:=(K43_7_eq t1 t5 t7 t8 t9 t10 h Q).mp (((X43_7_eq t1 t5 t7 t8 t9 t10 h Q).mp H))
noncomputable def X43_3 (t1 t5 t8 t9 t10:Value) (h:AH) (Q:RQ):Prop :=
 bq (binV Tryz.prog .lss 3 (.tmp 10) (.tmp 9) t10 t9 h) fun t11 =>
 condP (some t11)
 (let t12:Value:=t10
 bq (ia 1 t8 t10) fun t13 =>
 bq (ld1 h t13) fun t14 =>
 let t6:Value:=t12
 let t7:Value:=t14
 let t15:Value:=t6
 bq (binV Tryz.prog .gtr 3 (.tmp 15) (.const (Value.int .i64 0)) t15 (Value.int .i64 0) h) fun t16 =>
 condP (some t16)
 (let t17:Value:=t1
 HC Tryz.prog 52 (([]:List Value)++[t17]++([]:List Value)).toArray h (resK (fun t18 h =>
 HC Tryz.prog 53 (([]:List Value)++[t5,t18]++([]:List Value)).toArray h (resK (fun t19 h =>
 K43_7 t1 t5 t7 t8 t9 t10 h Q) (fun v h=>Q (.pan v) h))) (fun v h=>Q (.pan v) h)))
 (K43_7 t1 t5 t7 t8 t9 t10 h Q))
 (K43_10 t5 h Q)
theorem X43_3_eq (t1 t5 t8 t9 t10:Value) (h:AH) (Q:RQ):X43_3 t1 t5 t8 t9 t10 h Q=wpC Tryz.prog L43 (cAt code43 [.r,.r,.l,.r,.i,.i]) (mkA 28 [(1,t1),(5,t5),(8,t8),(9,t9),(10,t10)]) h (ctxAt Tryz.prog L43 code43 [.r,.r,.l,.r,.i,.i] (retK Tryz.prog res43 Q)):=by kernel_rfl
theorem X43_3_ok {t1 t5 t8 t9 t10:Value} {h:AH} {Q:RQ} (H:X43_3 t1 t5 t8 t9 t10 h Q):H43_3 t1 t5 t8 t9 t10 h Q:=HL.step (L:=L43) ((X43_3_eq t1 t5 t8 t9 t10 h Q).mp H)
noncomputable def X43 (t0 t1:Value) (h:AH) (Q:RQ):Prop :=
 let t4:Value:=(Value.string (ByteArray.mk #[]))
 (fun t5 h =>
 let t8:Value:=t0
 bq (lenL t8) fun t9 =>
 let t10:Value:=(Value.int .i64 0)
 H43_3 t1 t5 t8 t9 t10 h Q) (opNew h 115 #[(Value.pointer none),(Value.slice none 0 0)]).1 (opNew h 115 #[(Value.pointer none),(Value.slice none 0 0)]).2
theorem X43_eq (t0 t1:Value) (h:AH) (Q:RQ):X43 t0 t1 h Q=wpC Tryz.prog L43 code43 (argA [t0,t1] Tryz.f43.ntmps) h (retK Tryz.prog res43 Q):=by kernel_rfl
theorem X43_body:Tryz.f43.body=some code43:=by kernel_rfl
theorem X43_ok {t0 t1:Value} {h:AH} {Q:RQ} (H:X43 t0 t1 h Q):HC Tryz.prog 43 [t0,t1].toArray h Q:=HC.body Tryz.func43 X43_body ((X43_eq t0 t1 h Q).mp H)
noncomputable def code44:Code:=match Tryz.f44.body with | some c=>c | none=>.skip
noncomputable def res44:List ResultVar:=Tryz.f44.results.toList
def L44:Nat→Option (List Nat):=fun r=>none
noncomputable def X44 (t0 t1:Value) (h:AH) (Q:RQ):Prop :=
 (fun t3 h =>
 (fun t4 h =>
 bq (iaA 3 3 t3 (Value.int .i64 0)) fun t8 =>
 bq (fa 1 1 t8) fun t9 =>
 bq (ld1 h t9) fun t10 =>
 let t5:Value:=t10
 let t11:Value:=t0
 bq (binV Tryz.prog .eql 9 (.tmp 11) (.const (Value.string (ByteArray.mk #[108,101,110]))) t11 (Value.string (ByteArray.mk #[108,101,110])) h) fun t13 =>
 let t12:Value:=t13
 condP (some t12)
 (let t14:Value:=t5
 bq (lenS t14) fun t15 =>
 HC Tryz.prog 22 (([]:List Value)++[t15]++([]:List Value)).toArray h (resK (fun t16 h =>
 bq (bd #[(Value.int .i64 0),(Value.string (ByteArray.mk #[])),(Value.slice none 0 0)] [(0,1,t16)]) fun t17 =>
 bq (stN 3 h t4 t17) fun h=>(fun _ h =>
 bq (seqO [ldN 3 h t4]) fun vs=>Q (.ret (oneOf vs)) h) undef h) (fun v h=>Q (.pan v) h)))
 (bq (binV Tryz.prog .eql 9 (.tmp 11) (.const (Value.string (ByteArray.mk #[110,117,109]))) t11 (Value.string (ByteArray.mk #[110,117,109])) h) fun t19 =>
 let t18:Value:=t19
 condP (some t18)
 (let t20:Value:=t5
 HC Tryz.prog 51 (([]:List Value)++[t20]++([]:List Value)).toArray h (resK (fun t21 h =>
 bq (bd #[(Value.int .i64 0),(Value.string (ByteArray.mk #[])),(Value.slice none 0 0)] [(0,1,t21)]) fun t22 =>
 bq (stN 3 h t4 t22) fun h=>(fun _ h =>
 bq (seqO [ldN 3 h t4]) fun vs=>Q (.ret (oneOf vs)) h) undef h) (fun v h=>Q (.pan v) h)))
 (bq (binV Tryz.prog .eql 9 (.tmp 11) (.const (Value.string (ByteArray.mk #[116,101,120,116]))) t11 (Value.string (ByteArray.mk #[116,101,120,116])) h) fun t24 =>
 let t23:Value:=t24
 condP (some t23)
 (bq (iaA 3 3 t3 (Value.int .i64 0)) fun t25 =>
 bq (fa 0 1 t25) fun t26 =>
 bq (ld1 h t26) fun t27 =>
 HC Tryz.prog 56 (([]:List Value)++[t27]++([]:List Value)).toArray h (resK (fun t28 h =>
 bq (bd #[(Value.int .i64 0),(Value.string (ByteArray.mk #[])),(Value.slice none 0 0)] [(1,1,t28)]) fun t29 =>
 bq (stN 3 h t4 t29) fun h=>(fun _ h =>
 bq (seqO [ldN 3 h t4]) fun vs=>Q (.ret (oneOf vs)) h) undef h) (fun v h=>Q (.pan v) h)))
 (bq (binV Tryz.prog .eql 9 (.tmp 11) (.const (Value.string (ByteArray.mk #[99,97,116]))) t11 (Value.string (ByteArray.mk #[99,97,116])) h) fun t31 =>
 let t30:Value:=t31
 condP (some t30)
 (let t32:Value:=t5
 bq (iaA 3 3 t3 (Value.int .i64 1)) fun t34 =>
 bq (fa 1 1 t34) fun t35 =>
 bq (ld1 h t35) fun t36 =>
 HC Tryz.prog 52 (([]:List Value)++[t32]++([]:List Value)).toArray h (resK (fun t33 h =>
 ((bq (ld1 h t35) fun u=>(u=t36))∧(True)) ∧
 HC Tryz.prog 52 (([]:List Value)++[t36]++([]:List Value)).toArray h (resK (fun t37 h =>
 (True) ∧
 bq (binV Tryz.prog .add 9 (.tmp 33) (.tmp 37) t33 t37 h) fun t38 =>
 HC Tryz.prog 52 (([]:List Value)++[t38]++([]:List Value)).toArray h (resK (fun t39 h =>
 (True) ∧
 bq (bd #[(Value.int .i64 0),(Value.string (ByteArray.mk #[])),(Value.slice none 0 0)] [(1,1,t39)]) fun t40 =>
 bq (stN 3 h t4 t40) fun h=>(fun q10_9 h =>
 (True) ∧
 bq (seqO [ldN 3 h t4]) fun vs=>Q (.ret (oneOf vs)) h) undef h) (fun v h=>Q (.pan v) h))) (fun v h=>Q (.pan v) h))) (fun v h=>Q (.pan v) h)))
 (bq (binV Tryz.prog .eql 9 (.tmp 11) (.const (Value.string (ByteArray.mk #[99,117,116]))) t11 (Value.string (ByteArray.mk #[99,117,116])) h) fun t42 =>
 let t41:Value:=t42
 condP (some t41)
 (bq (iaA 3 3 t3 (Value.int .i64 1)) fun t43 =>
 bq (fa 0 1 t43) fun t44 =>
 bq (ld1 h t44) fun t45 =>
 (if [t45,(Value.int .i64 0)].all (plainN 12) then bq (flatV Tryz.prog (Builtin.max_ #[3,3] 3 [t45,(Value.int .i64 0)].toArray)) fun t46 =>
 let t47:Value:=t5
 bq (lenS t47) fun t48 =>
 (if [t46,t48].all (plainN 12) then bq (flatV Tryz.prog (Builtin.min_ #[3,3] 3 [t46,t48].toArray)) fun t49 =>
 let t6:Value:=t49
 bq (iaA 3 3 t3 (Value.int .i64 2)) fun t50 =>
 bq (fa 0 1 t50) fun t51 =>
 bq (ld1 h t51) fun t52 =>
 (if [t52,(Value.int .i64 0)].all (plainN 12) then bq (flatV Tryz.prog (Builtin.max_ #[3,3] 3 [t52,(Value.int .i64 0)].toArray)) fun t53 =>
 let t54:Value:=t5
 bq (lenS t54) fun t55 =>
 let t56:Value:=t6
 bq (binV Tryz.prog .sub 3 (.tmp 55) (.tmp 56) t55 t56 h) fun t57 =>
 (if [t53,t57].all (plainN 12) then bq (flatV Tryz.prog (Builtin.min_ #[3,3] 3 [t53,t57].toArray)) fun t58 =>
 let t7:Value:=t58
 let t59:Value:=t5
 let t60:Value:=t6
 let t61:Value:=t6
 let t62:Value:=t7
 bq (binV Tryz.prog .add 3 (.tmp 61) (.tmp 62) t61 t62 h) fun t63 =>
 bq (sliceV Tryz.prog h 9 t59 (some t60) (some t63)) fun t64 =>
 HC Tryz.prog 52 (([]:List Value)++[t64]++([]:List Value)).toArray h (resK (fun t65 h =>
 bq (bd #[(Value.int .i64 0),(Value.string (ByteArray.mk #[])),(Value.slice none 0 0)] [(1,1,t65)]) fun t66 =>
 bq (stN 3 h t4 t66) fun h=>(fun _ h =>
 bq (seqO [ldN 3 h t4]) fun vs=>Q (.ret (oneOf vs)) h) undef h) (fun v h=>Q (.pan v) h)) else False) else False) else False) else False))
 (bq (binV Tryz.prog .eql 9 (.tmp 11) (.const (Value.string (ByteArray.mk #[117,112,112,101,114]))) t11 (Value.string (ByteArray.mk #[117,112,112,101,114])) h) fun t68 =>
 let t67:Value:=t68
 condP (some t67)
 (let t69:Value:=t5
 HC Tryz.prog 52 (([]:List Value)++[t69]++([]:List Value)).toArray h (resK (fun t70 h =>
 HC Tryz.prog 57 (([]:List Value)++[t70,(Value.int .u8 97),(Value.int .u8 65)]++([]:List Value)).toArray h (resK (fun t71 h =>
 bq (bd #[(Value.int .i64 0),(Value.string (ByteArray.mk #[])),(Value.slice none 0 0)] [(1,1,t71)]) fun t72 =>
 bq (stN 3 h t4 t72) fun h=>(fun _ h =>
 bq (seqO [ldN 3 h t4]) fun vs=>Q (.ret (oneOf vs)) h) undef h) (fun v h=>Q (.pan v) h))) (fun v h=>Q (.pan v) h)))
 (bq (binV Tryz.prog .eql 9 (.tmp 11) (.const (Value.string (ByteArray.mk #[108,111,119,101,114]))) t11 (Value.string (ByteArray.mk #[108,111,119,101,114])) h) fun t74 =>
 let t73:Value:=t74
 condP (some t73)
 (let t75:Value:=t5
 HC Tryz.prog 52 (([]:List Value)++[t75]++([]:List Value)).toArray h (resK (fun t76 h =>
 HC Tryz.prog 57 (([]:List Value)++[t76,(Value.int .u8 65),(Value.int .u8 97)]++([]:List Value)).toArray h (resK (fun t77 h =>
 bq (bd #[(Value.int .i64 0),(Value.string (ByteArray.mk #[])),(Value.slice none 0 0)] [(1,1,t77)]) fun t78 =>
 bq (stN 3 h t4 t78) fun h=>(fun _ h =>
 bq (seqO [ldN 3 h t4]) fun vs=>Q (.ret (oneOf vs)) h) undef h) (fun v h=>Q (.pan v) h))) (fun v h=>Q (.pan v) h)))
 (bq (binV Tryz.prog .eql 9 (.tmp 11) (.const (Value.string (ByteArray.mk #[101,113]))) t11 (Value.string (ByteArray.mk #[101,113])) h) fun t80 =>
 let t79:Value:=t80
 condP (some t79)
 (let t81:Value:=t5
 bq (iaA 3 3 t3 (Value.int .i64 1)) fun t82 =>
 bq (fa 1 1 t82) fun t83 =>
 bq (ld1 h t83) fun t84 =>
 bq (binV Tryz.prog .eql 9 (.tmp 81) (.tmp 84) t81 t84 h) fun t85 =>
 HC Tryz.prog 37 (([]:List Value)++[t85]++([]:List Value)).toArray h (resK (fun t86 h =>
 bq (bd #[(Value.int .i64 0),(Value.string (ByteArray.mk #[])),(Value.slice none 0 0)] [(0,1,t86)]) fun t87 =>
 bq (stN 3 h t4 t87) fun h=>(fun _ h =>
 bq (seqO [ldN 3 h t4]) fun vs=>Q (.ret (oneOf vs)) h) undef h) (fun v h=>Q (.pan v) h)))
 (bq (binV Tryz.prog .eql 9 (.tmp 11) (.const (Value.string (ByteArray.mk #[108,101,115,115]))) t11 (Value.string (ByteArray.mk #[108,101,115,115])) h) fun t89 =>
 let t88:Value:=t89
 condP (some t88)
 (let t90:Value:=t5
 bq (iaA 3 3 t3 (Value.int .i64 1)) fun t91 =>
 bq (fa 1 1 t91) fun t92 =>
 bq (ld1 h t92) fun t93 =>
 bq (binV Tryz.prog .lss 9 (.tmp 90) (.tmp 93) t90 t93 h) fun t94 =>
 HC Tryz.prog 37 (([]:List Value)++[t94]++([]:List Value)).toArray h (resK (fun t95 h =>
 bq (bd #[(Value.int .i64 0),(Value.string (ByteArray.mk #[])),(Value.slice none 0 0)] [(0,1,t95)]) fun t96 =>
 bq (stN 3 h t4 t96) fun h=>(fun _ h =>
 bq (seqO [ldN 3 h t4]) fun vs=>Q (.ret (oneOf vs)) h) undef h) (fun v h=>Q (.pan v) h)))
 (bq (bd #[(Value.int .i64 0),(Value.string (ByteArray.mk #[])),(Value.slice none 0 0)] []) fun t97 =>
 bq (stN 3 h t4 t97) fun h=>(fun _ h =>
 bq (seqO [ldN 3 h t4]) fun vs=>Q (.ret (oneOf vs)) h) undef h)))))))))) (opNew h 68 #[(Value.int .i64 0),(Value.string (ByteArray.mk #[])),(Value.slice none 0 0)]).1 (opNew h 68 #[(Value.int .i64 0),(Value.string (ByteArray.mk #[])),(Value.slice none 0 0)]).2) (opNew h 95 t1.cells).1 (opNew h 95 t1.cells).2
theorem X44_eq (t0 t1:Value) (h:AH) (Q:RQ):X44 t0 t1 h Q=wpC Tryz.prog L44 code44 (argA [t0,t1] Tryz.f44.ntmps) h (retK Tryz.prog res44 Q):=by kernel_rfl
theorem X44_body:Tryz.f44.body=some code44:=by kernel_rfl
theorem X44_ok {t0 t1:Value} {h:AH} {Q:RQ} (H:X44 t0 t1 h Q):HC Tryz.prog 44 [t0,t1].toArray h Q:=HC.body Tryz.func44 X44_body ((X44_eq t0 t1 h Q).mp H)
noncomputable def code57:Code:=match Tryz.f57.body with | some c=>c | none=>.skip
noncomputable def res57:List ResultVar:=Tryz.f57.results.toList
def L57:Nat→Option (List Nat):=fun r=>if r=3 then some [1,2,7,12,13,14] else if r=7 then some [1,2,7,12,13,14] else none
noncomputable def H57_3 (t1 t2 t7 t12 t13 t14:Value) (h:AH) (Q:RQ):Prop:=HL Tryz.prog (cAt code57 [.r,.r,.l,.r,.i,.i]) (mkA 39 [(1,t1),(2,t2),(7,t7),(12,t12),(13,t13),(14,t14)]) h (ctxAt Tryz.prog L57 code57 [.r,.r,.l,.r,.i] (retK Tryz.prog res57 Q))
noncomputable def J57_7 (t1 t2 t7 t12 t13 t14:Value) (h:AH) (Q:RQ):Prop:=wpC Tryz.prog L57 (cAt code57 [.r,.r,.l,.r,.i,.i,.r,.r,.r]) (mkA 39 [(1,t1),(2,t2),(7,t7),(12,t12),(13,t13),(14,t14)]) h (ctxAt Tryz.prog L57 code57 [.r,.r,.l,.r,.i,.i,.r,.r,.r] (retK Tryz.prog res57 Q))
noncomputable def K57_7 (t1 t2 t7 t12 t13 t14:Value) (h:AH) (Q:RQ):Prop:=(ctxAt Tryz.prog L57 code57 [.r,.r,.l,.r,.i,.i,.r,.r,.l] (retK Tryz.prog res57 Q)) .normal (mkA 39 [(1,t1),(2,t2),(7,t7),(12,t12),(13,t13),(14,t14)]) h
theorem K57_7_eq (t1 t2 t7 t12 t13 t14:Value) (h:AH) (Q:RQ):J57_7 t1 t2 t7 t12 t13 t14 h Q=K57_7 t1 t2 t7 t12 t13 t14 h Q:=join_eq (p:=[.r,.r,.l,.r,.i,.i,.r,.r]) (code:=code57) (by kernel_rfl) (by kernel_rfl)
noncomputable def X57_7 (t1 t2 t7 t12 t13 t14:Value) (h:AH) (Q:RQ):Prop :=
 bq (binV Tryz.prog .add 3 (.tmp 14) (.const (Value.int .i64 1)) t14 (Value.int .i64 1) h) fun t36 =>
 let t14:Value:=t36
 H57_3 t1 t2 t7 t12 t13 t14 h Q
theorem X57_7_eq (t1 t2 t7 t12 t13 t14:Value) (h:AH) (Q:RQ):X57_7 t1 t2 t7 t12 t13 t14 h Q=wpC Tryz.prog L57 (cAt code57 [.r,.r,.l,.r,.i,.i,.r,.r,.r]) (mkA 39 [(1,t1),(2,t2),(7,t7),(12,t12),(13,t13),(14,t14)]) h (ctxAt Tryz.prog L57 code57 [.r,.r,.l,.r,.i,.i,.r,.r,.r] (retK Tryz.prog res57 Q)):=by kernel_rfl
theorem X57_7_ok {t1 t2 t7 t12 t13 t14:Value} {h:AH} {Q:RQ} (H:X57_7 t1 t2 t7 t12 t13 t14 h Q):K57_7 t1 t2 t7 t12 t13 t14 h Q:=(K57_7_eq t1 t2 t7 t12 t13 t14 h Q).mp (((X57_7_eq t1 t2 t7 t12 t13 t14 h Q).mp H))
noncomputable def X57_3 (t1 t2 t7 t12 t13 t14:Value) (h:AH) (Q:RQ):Prop :=
 bq (binV Tryz.prog .lss 3 (.tmp 14) (.tmp 13) t14 t13 h) fun t15 =>
 condP (some t15)
 (let t16:Value:=t14
 bq (ia 1 t12 t14) fun t17 =>
 bq (ld1 h t17) fun t18 =>
 let t8:Value:=t16
 let t9:Value:=t18
 let t19:Value:=t9
 let t20:Value:=t1
 bq (binV Tryz.prog .geq 5 (.tmp 19) (.tmp 20) t19 t20 h) fun t21 =>
 let t22:Value:=t21
 guardQ t22 true h (fun k=>k t9 h) fun t23 h =>
 guardQ t22 true h (fun k=>k t1 h) fun t24 h =>
 guardQ t22 true h (fun k=>bq (binV Tryz.prog .add 5 (.tmp 24) (.const (Value.int .u8 26)) t24 (Value.int .u8 26) h) fun v=>k v h) fun t25 h =>
 guardQ t22 true h (fun k=>bq (binV Tryz.prog .lss 5 (.tmp 23) (.tmp 25) t23 t25 h) fun v=>k v h) fun t26 h =>
 bq (pickV t22 t26 (Value.bool false)) fun t27 =>
 condP (some t27)
 (let t28:Value:=t7
 let t29:Value:=t8
 let t30:Value:=t9
 let t31:Value:=t1
 bq (binV Tryz.prog .sub 5 (.tmp 30) (.tmp 31) t30 t31 h) fun t32 =>
 let t33:Value:=t2
 bq (binV Tryz.prog .add 5 (.tmp 32) (.tmp 33) t32 t33 h) fun t34 =>
 bq (ia 1 t28 t29) fun t35 =>
 bq (stN 1 h t35 t34) fun h=>(fun _ h =>
 K57_7 t1 t2 t7 t12 t13 t14 h Q) undef h)
 (K57_7 t1 t2 t7 t12 t13 t14 h Q))
 (let t37:Value:=t7
 bq (convV Tryz.prog 80 9 t37 h) fun r=>(fun t38 h =>
 let t6:Value:=t38
 Q (.ret t6) h) r.1 r.2)
theorem X57_3_eq (t1 t2 t7 t12 t13 t14:Value) (h:AH) (Q:RQ):X57_3 t1 t2 t7 t12 t13 t14 h Q=wpC Tryz.prog L57 (cAt code57 [.r,.r,.l,.r,.i,.i]) (mkA 39 [(1,t1),(2,t2),(7,t7),(12,t12),(13,t13),(14,t14)]) h (ctxAt Tryz.prog L57 code57 [.r,.r,.l,.r,.i,.i] (retK Tryz.prog res57 Q)):=by kernel_rfl
theorem X57_3_ok {t1 t2 t7 t12 t13 t14:Value} {h:AH} {Q:RQ} (H:X57_3 t1 t2 t7 t12 t13 t14 h Q):H57_3 t1 t2 t7 t12 t13 t14 h Q:=HL.step (L:=L57) ((X57_3_eq t1 t2 t7 t12 t13 t14 h Q).mp H)
noncomputable def X57 (t0 t1 t2:Value) (h:AH) (Q:RQ):Prop :=
 let t6:Value:=(Value.string (ByteArray.mk #[]))
 let t10:Value:=t0
 bq (convV Tryz.prog 9 80 t10 h) fun r=>(fun t11 h =>
 let t7:Value:=t11
 let t12:Value:=t7
 bq (lenL t12) fun t13 =>
 let t14:Value:=(Value.int .i64 0)
 H57_3 t1 t2 t7 t12 t13 t14 h Q) r.1 r.2
theorem X57_eq (t0 t1 t2:Value) (h:AH) (Q:RQ):X57 t0 t1 t2 h Q=wpC Tryz.prog L57 code57 (argA [t0,t1,t2] Tryz.f57.ntmps) h (retK Tryz.prog res57 Q):=by kernel_rfl
theorem X57_body:Tryz.f57.body=some code57:=by kernel_rfl
theorem X57_ok {t0 t1 t2:Value} {h:AH} {Q:RQ} (H:X57 t0 t1 t2 h Q):HC Tryz.prog 57 [t0,t1,t2].toArray h Q:=HC.body Tryz.func57 X57_body ((X57_eq t0 t1 t2 h Q).mp H)
end Go.Proofs.YtibigfkeaemanaaGreatDoor.X
end
