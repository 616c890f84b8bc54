import Derived.KernelRfl
import Derived.Test.YtgdnfoijhdpppaaDoorProg
import Derived.Test.YtgdnfoijhdpppaaDoorZ0
import Derived.Test.YtgdnfoijhdpppaaDoorZ18
import Derived.Test.YtgdnfoijhdpppaaDoorZ19
set_option linter.unusedVariables false
set_option linter.unusedSimpArgs false
section
namespace Go.Proofs.YtgdnfoijhdpppaaDoor.X
open Go.Ab
set_option maxRecDepth 100000
theorem bin_add_3 {a b:Int} {x y:Operand} {h:AH}:binV Tryd.prog .add 3 x y (.int .i64 a) (.int .i64 b) h=some (.int .i64 (IntKind.wrap .i64 (a + b))):=by kernel_rfl
theorem bin_add_9 {a b:ByteArray} {x y:Operand} {h:AH} (hs:a.size + b.size ≤ 9223372036854775807):binV Tryd.prog .add 9 x y (.string a) (.string b) h=some (.string (a++b)):=by exact bin_cat (by kernel_rfl) hs
theorem bin_eql_24_nn {x y:Operand} {h:AH}:binV Tryd.prog .eql 24 x y (.pointer none) (.pointer none) h=some (.bool true):=by kernel_rfl
theorem bin_eql_24_an {k o:Nat} {x y:Operand} {h:AH}:binV Tryd.prog .eql 24 x y (.pointer (some ⟨k,o,none⟩)) (.pointer none) h=some (.bool false):=by kernel_rfl
theorem bin_eql_28 {a b:Int} {x y:Operand} {h:AH}:binV Tryd.prog .eql 28 x y (.int .i64 a) (.int .i64 b) h=some (.bool (a == b)):=by kernel_rfl
theorem bin_eql_3 {a b:Int} {x y:Operand} {h:AH}:binV Tryd.prog .eql 3 x y (.int .i64 a) (.int .i64 b) h=some (.bool (a == b)):=by kernel_rfl
theorem bin_eql_4 {a b:Bool} {x y:Operand} {h:AH}:binV Tryd.prog .eql 4 x y (.bool a) (.bool b) h=some (.bool (a == b)):=by kernel_rfl
theorem bin_eql_5 {a b:Int} {x y:Operand} {h:AH}:binV Tryd.prog .eql 5 x y (.int .u8 a) (.int .u8 b) h=some (.bool (a == b)):=by kernel_rfl
theorem bin_eql_51_nn {x y:Operand} {h:AH}:binV Tryd.prog .eql 51 x y (.pointer none) (.pointer none) h=some (.bool true):=by kernel_rfl
theorem bin_eql_51_an {k o:Nat} {x y:Operand} {h:AH}:binV Tryd.prog .eql 51 x y (.pointer (some ⟨k,o,none⟩)) (.pointer none) h=some (.bool false):=by kernel_rfl
theorem bin_eql_9 {a b:ByteArray} {x y:Operand} {h:AH}:binV Tryd.prog .eql 9 x y (.string a) (.string b) h=some (.bool (a.toList == b.toList)):=by kernel_rfl
theorem bin_geq_3 {a b:Int} {x y:Operand} {h:AH}:binV Tryd.prog .geq 3 x y (.int .i64 a) (.int .i64 b) h=some (.bool (decide (a ≥ b))):=by kernel_rfl
theorem bin_gtr_3 {a b:Int} {x y:Operand} {h:AH}:binV Tryd.prog .gtr 3 x y (.int .i64 a) (.int .i64 b) h=some (.bool (decide (a > b))):=by kernel_rfl
theorem bin_gtr_5 {a b:Int} {x y:Operand} {h:AH}:binV Tryd.prog .gtr 5 x y (.int .u8 a) (.int .u8 b) h=some (.bool (decide (a > b))):=by kernel_rfl
theorem bin_leq_3 {a b:Int} {x y:Operand} {h:AH}:binV Tryd.prog .leq 3 x y (.int .i64 a) (.int .i64 b) h=some (.bool (decide (a ≤ b))):=by kernel_rfl
theorem bin_lss_3 {a b:Int} {x y:Operand} {h:AH}:binV Tryd.prog .lss 3 x y (.int .i64 a) (.int .i64 b) h=some (.bool (decide (a < b))):=by kernel_rfl
theorem bin_lss_5 {a b:Int} {x y:Operand} {h:AH}:binV Tryd.prog .lss 5 x y (.int .u8 a) (.int .u8 b) h=some (.bool (decide (a < b))):=by kernel_rfl
theorem bin_neq_28 {a b:Int} {x y:Operand} {h:AH}:binV Tryd.prog .neq 28 x y (.int .i64 a) (.int .i64 b) h=some (.bool (a != b)):=by kernel_rfl
theorem bin_neq_3 {a b:Int} {x y:Operand} {h:AH}:binV Tryd.prog .neq 3 x y (.int .i64 a) (.int .i64 b) h=some (.bool (a != b)):=by kernel_rfl
theorem bin_neq_9 {a b:ByteArray} {x y:Operand} {h:AH}:binV Tryd.prog .neq 9 x y (.string a) (.string b) h=some (.bool (!(a.toList == b.toList))):=by kernel_rfl
theorem bin_sub_3 {a b:Int} {x y:Operand} {h:AH}:binV Tryd.prog .sub 3 x y (.int .i64 a) (.int .i64 b) h=some (.int .i64 (IntKind.wrap .i64 (a - b))):=by kernel_rfl
theorem un_not {a:Bool}:unV Tryd.prog .not (.bool a)=some (.bool (!a)):=by kernel_rfl
theorem max_3 {a b:Int}:flatV Tryd.prog (Builtin.max_ #[3,3] 3 [.int .i64 a,.int .i64 b].toArray)=some (.int .i64 (if b > a then b else a)):=by kernel_rfl
theorem rng_65 {h:AH} {m:Nat}:opRange Tryd.prog h 65 (.map (some m))=rngE h m (h.get m):=by kernel_rfl
theorem hb_39:hasBody Tryd.prog 39=true:=by kernel_rfl
theorem hb_43:hasBody Tryd.prog 43=true:=by kernel_rfl
theorem SXB:(((((type_of% @bin_add_3)∧((type_of% @bin_add_9)∧(type_of% @bin_eql_24_nn)))∧((type_of% @bin_eql_24_an)∧((type_of% @bin_eql_28)∧(type_of% @bin_eql_3))))∧(((type_of% @bin_eql_4)∧((type_of% @bin_eql_5)∧(type_of% @bin_eql_51_nn)))∧(((type_of% @bin_eql_51_an)∧(type_of% @bin_eql_9))∧((type_of% @bin_geq_3)∧(type_of% @bin_gtr_3)))))∧((((type_of% @bin_gtr_5)∧((type_of% @bin_leq_3)∧(type_of% @bin_lss_3)))∧((type_of% @bin_lss_5)∧((type_of% @bin_neq_28)∧(type_of% @bin_neq_3))))∧(((type_of% @bin_neq_9)∧((type_of% @bin_sub_3)∧(type_of% @un_not)))∧(((type_of% @max_3)∧(type_of% @rng_65))∧((type_of% @hb_39)∧(type_of% @hb_43)))))):=⟨⟨⟨⟨@bin_add_3,⟨@bin_add_9,@bin_eql_24_nn⟩⟩,⟨@bin_eql_24_an,⟨@bin_eql_28,@bin_eql_3⟩⟩⟩,⟨⟨@bin_eql_4,⟨@bin_eql_5,@bin_eql_51_nn⟩⟩,⟨⟨@bin_eql_51_an,@bin_eql_9⟩,⟨@bin_geq_3,@bin_gtr_3⟩⟩⟩⟩,⟨⟨⟨@bin_gtr_5,⟨@bin_leq_3,@bin_lss_3⟩⟩,⟨@bin_lss_5,⟨@bin_neq_28,@bin_neq_3⟩⟩⟩,⟨⟨@bin_neq_9,⟨@bin_sub_3,@un_not⟩⟩,⟨⟨@max_3,@rng_65⟩,⟨@hb_39,@hb_43⟩⟩⟩⟩⟩
end Go.Proofs.YtgdnfoijhdpppaaDoor.X
end
section
namespace Go.Proofs.YtgdnfoijhdpppaaDoor.X
open Go.Ab
set_option maxRecDepth 100000
noncomputable def code6:Code:=match Tryd.f6.body with | some c=>c | none=>.skip
noncomputable def res6:List ResultVar:=Tryd.f6.results.toList
def L6:Nat→Option (List Nat):=fun r=>none
noncomputable def X6 (h:AH) (Q:Res→AH→Prop):Prop :=
 let t0:Value:=(Value.pointer none)
 HC Tryd.prog 11 (([]:List Value)++[(Value.int .i64 0)]++([]:List Value)).toArray h (resK (fun t1 h =>
 bq (bd #[(Value.pointer none)] [(0,1,t1)]) fun t2 =>
 (fun t3 h =>
 let t0:Value:=t3
 Q (.ret t0) h) (opNew h 54 t2.cells).1 (opNew h 54 t2.cells).2) (fun v h=>Q (.pan v) h))
theorem X6_eq (h:AH) (Q:Res→AH→Prop):X6  h Q=wpC Tryd.prog L6 code6 (argA [] Tryd.f6.ntmps) h (retK Tryd.prog res6 Q):=by kernel_rfl
theorem X6_body:Tryd.f6.body=some code6:=by kernel_rfl
theorem X6_ok {h:AH} {Q:Res→AH→Prop} (H:X6  h Q):HC Tryd.prog 6 [].toArray h Q:=HC.body Tryd.func6 X6_body ((X6_eq  h Q).mp H)
noncomputable def code11:Code:=match Tryd.f11.body with | some c=>c | none=>.skip
noncomputable def res11:List ResultVar:=Tryd.f11.results.toList
def L11:Nat→Option (List Nat):=fun r=>none
noncomputable def X11 (t0:Value) (h:AH) (Q:Res→AH→Prop):Prop :=
 let t2:Value:=(Value.pointer none)
 let t3:Value:=t0
 (fun t4 h =>
 bq (bd #[(Value.int .i64 0),(Value.int .i64 0),(Value.map none)] [(0,1,t3),(2,1,t4)]) fun t5 =>
 (fun t6 h =>
 let t2:Value:=t6
 Q (.ret t2) h) (opNew h 67 t5.cells).1 (opNew h 67 t5.cells).2) (opMakeMap h).1 (opMakeMap h).2
theorem X11_eq (t0:Value) (h:AH) (Q:Res→AH→Prop):X11 t0 h Q=wpC Tryd.prog L11 code11 (argA [t0] Tryd.f11.ntmps) h (retK Tryd.prog res11 Q):=by kernel_rfl
theorem X11_body:Tryd.f11.body=some code11:=by kernel_rfl
theorem X11_ok {t0:Value} {h:AH} {Q:Res→AH→Prop} (H:X11 t0 h Q):HC Tryd.prog 11 [t0].toArray h Q:=HC.body Tryd.func11 X11_body ((X11_eq t0 h Q).mp H)
noncomputable def code19:Code:=match Tryd.f19.body with | some c=>c | none=>.skip
noncomputable def res19:List ResultVar:=Tryd.f19.results.toList
def L19:Nat→Option (List Nat):=fun r=>none
noncomputable def X19 (t0 t1:Value) (h:AH) (Q:Res→AH→Prop):Prop :=
 let t4:Value:=(Value.slice none 0 0)
 let t5:Value:=Value.nilIface
 let t6:Value:=(Value.int .i64 0)
 let t10:Value:=t1
 HC Tryd.prog 32 (([]:List Value)++[t10]++([]:List Value)).toArray h (resK (fun t11 h =>
 let t9:Value:=t11
 bq (opExtract t9 0) fun t12 =>
 bq (opExtract t9 1) fun t13 =>
 let t7:Value:=t12
 let t8:Value:=t13
 let t14:Value:=t8
 bq (binV Tryd.prog .neq 28 (.tmp 14) (.const (Value.int .i64 0)) t14 (Value.int .i64 0) h) fun t15 =>
 condP (some t15)
 (let t16:Value:=t8
 let t4:Value:=(Value.slice none 0 0)
 let t5:Value:=Value.nilIface
 let t6:Value:=t16
 Q (.ret (.tuple [t4,t5,t6].toArray)) h)
 (let t17:Value:=t0
 let t18:Value:=t7
 HC Tryd.prog 33 (([]:List Value)++[t17,t18]++([]:List Value)).toArray h (resK (fun t19 h =>
 bq (opExtract t19 0) fun t20 =>
 bq (opExtract t19 1) fun t21 =>
 bq (opExtract t19 2) fun t22 =>
 let t4:Value:=t20
 let t5:Value:=t21
 let t6:Value:=t22
 Q (.ret (.tuple [t4,t5,t6].toArray)) h) (fun v h=>Q (.pan v) h)))) (fun v h=>Q (.pan v) h))
theorem X19_eq (t0 t1:Value) (h:AH) (Q:Res→AH→Prop):X19 t0 t1 h Q=wpC Tryd.prog L19 code19 (argA [t0,t1] Tryd.f19.ntmps) h (retK Tryd.prog res19 Q):=by kernel_rfl
theorem X19_body:Tryd.f19.body=some code19:=by kernel_rfl
theorem X19_ok {t0 t1:Value} {h:AH} {Q:Res→AH→Prop} (H:X19 t0 t1 h Q):HC Tryd.prog 19 [t0,t1].toArray h Q:=HC.body Tryd.func19 X19_body ((X19_eq t0 t1 h Q).mp H)
noncomputable def code21:Code:=match Tryd.f21.body with | some c=>c | none=>.skip
noncomputable def res21:List ResultVar:=Tryd.f21.results.toList
def L21:Nat→Option (List Nat):=fun r=>none
noncomputable def X21 (t0 t1:Value) (h:AH) (Q:Res→AH→Prop):Prop :=
 let t4:Value:=(Value.slice none 0 0)
 let t5:Value:=(Value.string (ByteArray.mk #[]))
 let t6:Value:=(Value.int .i64 0)
 let t18:Value:=t1
 HC Tryd.prog 26 (([]:List Value)++[t18]++([]:List Value)).toArray h (resK (fun t19 h =>
 let t17:Value:=t19
 bq (opExtract t17 0) fun t20 =>
 bq (opExtract t17 1) fun t21 =>
 let t7:Value:=t20
 let t8:Value:=t21
 let t22:Value:=t8
 bq (binV Tryd.prog .neq 28 (.tmp 22) (.const (Value.int .i64 0)) t22 (Value.int .i64 0) h) fun t23 =>
 condP (some t23)
 (let t24:Value:=t8
 let t4:Value:=(Value.slice none 0 0)
 let t5:Value:=(Value.string (ByteArray.mk #[]))
 let t6:Value:=t24
 Q (.ret (.tuple [t4,t5,t6].toArray)) h)
 (let t26:Value:=t1
 HC Tryd.prog 34 (([]:List Value)++[t26]++([]:List Value)).toArray h (resK (fun t27 h =>
 let t25:Value:=t27
 bq (opExtract t25 0) fun t28 =>
 bq (opExtract t25 1) fun t29 =>
 let t9:Value:=t28
 let t10:Value:=t29
 let t31:Value:=t0
 let t32:Value:=t9
 HC Tryd.prog 19 (([]:List Value)++[t31,t32]++([]:List Value)).toArray h (resK (fun t33 h =>
 let t30:Value:=t33
 bq (opExtract t30 0) fun t34 =>
 bq (opExtract t30 1) fun t35 =>
 bq (opExtract t30 2) fun t36 =>
 let t11:Value:=t34
 let t12:Value:=t35
 let t8:Value:=t36
 let t37:Value:=t8
 bq (binV Tryd.prog .neq 28 (.tmp 37) (.const (Value.int .i64 0)) t37 (Value.int .i64 0) h) fun t38 =>
 condP (some t38)
 (let t39:Value:=t8
 let t4:Value:=(Value.slice none 0 0)
 let t5:Value:=(Value.string (ByteArray.mk #[]))
 let t6:Value:=t39
 Q (.ret (.tuple [t4,t5,t6].toArray)) h)
 (let t41:Value:=t12
 bq (opTypeAssert Tryd.prog t41 51 true) fun t42 =>
 let t40:Value:=t42
 bq (opExtract t40 0) fun t43 =>
 bq (opExtract t40 1) fun t44 =>
 let t13:Value:=t43
 let t14:Value:=t44
 let t45:Value:=t14
 bq (unV Tryd.prog .not t45) fun t46 =>
 condP (some t46)
 (let t4:Value:=(Value.slice none 0 0)
 let t5:Value:=(Value.string (ByteArray.mk #[]))
 let t6:Value:=(Value.int .i64 72)
 Q (.ret (.tuple [t4,t5,t6].toArray)) h)
 (let t48:Value:=t13
 bq (nilV Tryd.prog t48) fun t49 =>
 bq (fa 2 1 t49) fun t50 =>
 bq (ld1 h t50) fun t51 =>
 let t52:Value:=t7
 bq (opLookup Tryd.prog h 65 t51 t52 true) fun t53 =>
 let t47:Value:=t53
 bq (opExtract t47 0) fun t54 =>
 bq (opExtract t47 1) fun t55 =>
 let t15:Value:=t54
 let t16:Value:=t55
 let t56:Value:=t16
 condP (some t56)
 (let t4:Value:=(Value.slice none 0 0)
 let t5:Value:=(Value.string (ByteArray.mk #[]))
 let t6:Value:=(Value.int .i64 71)
 Q (.ret (.tuple [t4,t5,t6].toArray)) h)
 (let t57:Value:=t11
 let t58:Value:=t13
 bq (bs 51 #[(Value.pointer none)] 1 h [(0,1,t58)]) fun r=>(fun t59 h =>
 bq (apT 51 1 8 (some (Value.pointer none)) h t57 t59) fun r=>(fun t60 h =>
 let t61:Value:=t7
 let t4:Value:=t60
 let t5:Value:=t61
 let t6:Value:=(Value.int .i64 0)
 Q (.ret (.tuple [t4,t5,t6].toArray)) h) r.1 r.2) r.1 r.2)))) (fun v h=>Q (.pan v) h))) (fun v h=>Q (.pan v) h)))) (fun v h=>Q (.pan v) h))
theorem X21_eq (t0 t1:Value) (h:AH) (Q:Res→AH→Prop):X21 t0 t1 h Q=wpC Tryd.prog L21 code21 (argA [t0,t1] Tryd.f21.ntmps) h (retK Tryd.prog res21 Q):=by kernel_rfl
theorem X21_body:Tryd.f21.body=some code21:=by kernel_rfl
theorem X21_ok {t0 t1:Value} {h:AH} {Q:Res→AH→Prop} (H:X21 t0 t1 h Q):HC Tryd.prog 21 [t0,t1].toArray h Q:=HC.body Tryd.func21 X21_body ((X21_eq t0 t1 h Q).mp H)
noncomputable def code22:Code:=match Tryd.f22.body with | some c=>c | none=>.skip
noncomputable def res22:List ResultVar:=Tryd.f22.results.toList
def L22:Nat→Option (List Nat):=fun r=>if r=2 then some [1,7,8,9] else none
noncomputable def H22_2 (t1 t7 t8 t9:Value) (h:AH) (Q:Res→AH→Prop):Prop:=HL Tryd.prog (cAt code22 [.r,.l,.r,.i,.i]) (mkA 32 [(1,t1),(7,t7),(8,t8),(9,t9)]) h (ctxAt Tryd.prog L22 code22 [.r,.l,.r,.i] (retK Tryd.prog res22 Q))
noncomputable def X22_2 (t1 t7 t8 t9:Value) (h:AH) (Q:Res→AH→Prop):Prop :=
 bq (binV Tryd.prog .lss 3 (.tmp 9) (.tmp 8) t9 t8 h) fun t10 =>
 condP (some t10)
 (bq (ia 1 t7 t9) fun t11 =>
 bq (ld1 h t11) fun t12 =>
 let t6:Value:=t12
 let t13:Value:=t6
 bq (nilV Tryd.prog t13) fun t14 =>
 bq (fa 0 1 t14) fun t15 =>
 bq (ld1 h t15) fun t16 =>
 bq (binV Tryd.prog .gtr 3 (.tmp 16) (.const (Value.int .i64 0)) t16 (Value.int .i64 0) h) fun t17 =>
 let t18:Value:=t17
 guardQ t18 true h (fun k=>k t6 h) fun t19 h =>
 guardQ t18 true h (fun k=>bq (nilV Tryd.prog t19) fun v=>k v h) fun t20 h =>
 guardQ t18 true h (fun k=>bq (fa 1 1 t20) fun v=>k v h) fun t21 h =>
 guardQ t18 true h (fun k=>bq (ld1 h t21) fun v=>k v h) fun t22 h =>
 guardQ t18 true h (fun k=>k t1 h) fun t23 h =>
 guardQ t18 true h (fun k=>bq (binV Tryd.prog .add 3 (.tmp 22) (.tmp 23) t22 t23 h) fun v=>k v h) fun t24 h =>
 guardQ t18 true h (fun k=>k t6 h) fun t25 h =>
 guardQ t18 true h (fun k=>bq (nilV Tryd.prog t25) fun v=>k v h) fun t26 h =>
 guardQ t18 true h (fun k=>bq (fa 0 1 t26) fun v=>k v h) fun t27 h =>
 guardQ t18 true h (fun k=>bq (ld1 h t27) fun v=>k v h) fun t28 h =>
 guardQ t18 true h (fun k=>bq (binV Tryd.prog .gtr 3 (.tmp 24) (.tmp 28) t24 t28 h) fun v=>k v h) fun t29 h =>
 bq (pickV t18 t29 (Value.bool false)) fun t30 =>
 condP (some t30)
 (let t4:Value:=(Value.int .i64 74)
 Q (.ret t4) h)
 (bq (binV Tryd.prog .add 3 (.tmp 9) (.const (Value.int .i64 1)) t9 (Value.int .i64 1) h) fun t31 =>
 let t9:Value:=t31
 H22_2 t1 t7 t8 t9 h Q))
 (let t4:Value:=(Value.int .i64 0)
 Q (.ret t4) h)
theorem X22_2_eq (t1 t7 t8 t9:Value) (h:AH) (Q:Res→AH→Prop):X22_2 t1 t7 t8 t9 h Q=wpC Tryd.prog L22 (cAt code22 [.r,.l,.r,.i,.i]) (mkA 32 [(1,t1),(7,t7),(8,t8),(9,t9)]) h (ctxAt Tryd.prog L22 code22 [.r,.l,.r,.i,.i] (retK Tryd.prog res22 Q)):=by kernel_rfl
theorem X22_2_ok {t1 t7 t8 t9:Value} {h:AH} {Q:Res→AH→Prop} (H:X22_2 t1 t7 t8 t9 h Q):H22_2 t1 t7 t8 t9 h Q:=HL.step (L:=L22) ((X22_2_eq t1 t7 t8 t9 h Q).mp H)
noncomputable def X22 (t0 t1:Value) (h:AH) (Q:Res→AH→Prop):Prop :=
 let t4:Value:=(Value.int .i64 0)
 let t7:Value:=t0
 bq (lenL t7) fun t8 =>
 let t9:Value:=(Value.int .i64 0)
 H22_2 t1 t7 t8 t9 h Q
theorem X22_eq (t0 t1:Value) (h:AH) (Q:Res→AH→Prop):X22 t0 t1 h Q=wpC Tryd.prog L22 code22 (argA [t0,t1] Tryd.f22.ntmps) h (retK Tryd.prog res22 Q):=by kernel_rfl
theorem X22_body:Tryd.f22.body=some code22:=by kernel_rfl
theorem X22_ok {t0 t1:Value} {h:AH} {Q:Res→AH→Prop} (H:X22 t0 t1 h Q):HC Tryd.prog 22 [t0,t1].toArray h Q:=HC.body Tryd.func22 X22_body ((X22_eq t0 t1 h Q).mp H)
noncomputable def code23:Code:=match Tryd.f23.body with | some c=>c | none=>.skip
noncomputable def res23:List ResultVar:=Tryd.f23.results.toList
def L23:Nat→Option (List Nat):=fun r=>if r=1 then some [0,1,2,8,9,10] else none
noncomputable def H23_1 (t0 t1 t2 t8 t9 t10:Value) (h:AH) (Q:Res→AH→Prop):Prop:=HL Tryd.prog (cAt code23 [.l,.r,.i,.i]) (mkA 35 [(0,t0),(1,t1),(2,t2),(8,t8),(9,t9),(10,t10)]) h (ctxAt Tryd.prog L23 code23 [.l,.r,.i] (retK Tryd.prog res23 Q))
noncomputable def X23_1 (t0 t1 t2 t8 t9 t10:Value) (h:AH) (Q:Res→AH→Prop):Prop :=
 bq (binV Tryd.prog .lss 3 (.tmp 10) (.tmp 9) t10 t9 h) fun t11 =>
 condP (some t11)
 (bq (ia 1 t8 t10) fun t12 =>
 bq (ld1 h t12) fun t13 =>
 let t7:Value:=t13
 let t14:Value:=t7
 bq (nilV Tryd.prog t14) fun t15 =>
 bq (fa 1 1 t15) fun t16 =>
 bq (ld1 h t16) fun t17 =>
 let t18:Value:=t2
 invokeP Tryd.prog t18 "mahout/tree.weight" [] h (fun t19 h =>
 ((bq (ld1 h t16) fun u=>(u=t17))∧(True)) ∧
 bq (binV Tryd.prog .add 3 (.tmp 17) (.tmp 19) t17 t19 h) fun t20 =>
 bq (nilV Tryd.prog t14) fun t21 =>
 bq (fa 1 1 t21) fun t22 =>
 bq (stN 1 h t22 t20) fun h=>(fun q3_9 h =>
 (True) ∧
 bq (binV Tryd.prog .add 3 (.tmp 10) (.const (Value.int .i64 1)) t10 (Value.int .i64 1) h) fun t23 =>
 let t10:Value:=t23
 H23_1 t0 t1 t2 t8 t9 t10 h Q) undef h) (fun v h=>Q (.pan v) h))
 (let t24:Value:=t0
 let t25:Value:=t0
 bq (lenL t25) fun t26 =>
 bq (binV Tryd.prog .sub 3 (.tmp 26) (.const (Value.int .i64 1)) t26 (Value.int .i64 1) h) fun t27 =>
 bq (ia 1 t24 t27) fun t28 =>
 bq (ld1 h t28) fun t29 =>
 bq (nilV Tryd.prog t29) fun t30 =>
 bq (fa 2 1 t30) fun t31 =>
 bq (ld1 h t31) fun t32 =>
 let t33:Value:=t1
 let t34:Value:=t2
 bq (opMapUpdate Tryd.prog h 65 t32 t33 t34) fun h=>(fun _ h =>
 Q (.ret (.tuple [].toArray)) h) undef h)
theorem X23_1_eq (t0 t1 t2 t8 t9 t10:Value) (h:AH) (Q:Res→AH→Prop):X23_1 t0 t1 t2 t8 t9 t10 h Q=wpC Tryd.prog L23 (cAt code23 [.l,.r,.i,.i]) (mkA 35 [(0,t0),(1,t1),(2,t2),(8,t8),(9,t9),(10,t10)]) h (ctxAt Tryd.prog L23 code23 [.l,.r,.i,.i] (retK Tryd.prog res23 Q)):=by kernel_rfl
theorem X23_1_ok {t0 t1 t2 t8 t9 t10:Value} {h:AH} {Q:Res→AH→Prop} (H:X23_1 t0 t1 t2 t8 t9 t10 h Q):H23_1 t0 t1 t2 t8 t9 t10 h Q:=HL.step (L:=L23) ((X23_1_eq t0 t1 t2 t8 t9 t10 h Q).mp H)
noncomputable def X23 (t0 t1 t2:Value) (h:AH) (Q:Res→AH→Prop):Prop :=
 let t8:Value:=t0
 bq (lenL t8) fun t9 =>
 let t10:Value:=(Value.int .i64 0)
 H23_1 t0 t1 t2 t8 t9 t10 h Q
theorem X23_eq (t0 t1 t2:Value) (h:AH) (Q:Res→AH→Prop):X23 t0 t1 t2 h Q=wpC Tryd.prog L23 code23 (argA [t0,t1,t2] Tryd.f23.ntmps) h (retK Tryd.prog res23 Q):=by kernel_rfl
theorem X23_body:Tryd.f23.body=some code23:=by kernel_rfl
theorem X23_ok {t0 t1 t2:Value} {h:AH} {Q:Res→AH→Prop} (H:X23 t0 t1 t2 h Q):HC Tryd.prog 23 [t0,t1,t2].toArray h Q:=HC.body Tryd.func23 X23_body ((X23_eq t0 t1 t2 h Q).mp H)
noncomputable def code24:Code:=match Tryd.f24.body with | some c=>c | none=>.skip
noncomputable def res24:List ResultVar:=Tryd.f24.results.toList
def L24:Nat→Option (List Nat):=fun r=>none
noncomputable def X24 (t0 t1 t2 t3:Value) (h:AH) (Q:Res→AH→Prop):Prop :=
 let t8:Value:=(Value.pointer none)
 let t9:Value:=(Value.int .i64 0)
 let t16:Value:=t0
 let t17:Value:=t1
 HC Tryd.prog 19 (([]:List Value)++[t16,t17]++([]:List Value)).toArray h (resK (fun t18 h =>
 let t15:Value:=t18
 bq (opExtract t15 0) fun t19 =>
 bq (opExtract t15 1) fun t20 =>
 bq (opExtract t15 2) fun t21 =>
 let t10:Value:=t19
 let t11:Value:=t20
 let t12:Value:=t21
 let t22:Value:=t12
 bq (binV Tryd.prog .neq 28 (.tmp 22) (.const (Value.int .i64 0)) t22 (Value.int .i64 0) h) fun t23 =>
 condP (some t23)
 (let t24:Value:=t12
 let t8:Value:=(Value.pointer none)
 let t9:Value:=t24
 Q (.ret (.tuple [t8,t9].toArray)) h)
 (let t26:Value:=t11
 bq (opTypeAssert Tryd.prog t26 56 true) fun t27 =>
 let t25:Value:=t27
 bq (opExtract t25 0) fun t28 =>
 bq (opExtract t25 1) fun t29 =>
 let t13:Value:=t28
 let t14:Value:=t29
 let t31:Value:=t14
 bq (unV Tryd.prog .not t31) fun t32 =>
 let t30:Value:=t32
 condP (some t30)
 (let t8:Value:=(Value.pointer none)
 let t9:Value:=(Value.int .i64 73)
 Q (.ret (.tuple [t8,t9].toArray)) h)
 (let t34:Value:=t13
 bq (nilV Tryd.prog t34) fun t35 =>
 bq (fa 0 1 t35) fun t36 =>
 bq (ld1 h t36) fun t37 =>
 bq (unV Tryd.prog .not t37) fun t38 =>
 let t39:Value:=t38
 guardQ t39 false h (fun k=>k t3 h) fun t40 h =>
 guardQ t39 false h (fun k=>bq (unV Tryd.prog .not t40) fun v=>k v h) fun t41 h =>
 guardQ t39 false h (fun k=>k t41 h) fun t42 h =>
 guardQ t42 true h (fun k=>k t13 h) fun t43 h =>
 guardQ t42 true h (fun k=>bq (nilV Tryd.prog t43) fun v=>k v h) fun t44 h =>
 guardQ t42 true h (fun k=>bq (fa 1 1 t44) fun v=>k v h) fun t45 h =>
 guardQ t42 true h (fun k=>bq (ld1 h t45) fun v=>k v h) fun t46 h =>
 guardQ t42 true h (fun k=>k t2 h) fun t47 h =>
 guardQ t42 true h (fun k=>bq (binV Tryd.prog .neq 3 (.tmp 46) (.tmp 47) t46 t47 h) fun v=>k v h) fun t48 h =>
 guardQ t39 false h (fun k=>bq (pickV t42 t48 (Value.bool false)) fun v=>k v h) fun t49 h =>
 bq (pickV t39 (Value.bool true) t49) fun t50 =>
 let t33:Value:=t50
 condP (some t33)
 (let t8:Value:=(Value.pointer none)
 let t9:Value:=(Value.int .i64 75)
 Q (.ret (.tuple [t8,t9].toArray)) h)
 (let t51:Value:=t13
 let t8:Value:=t51
 let t9:Value:=(Value.int .i64 0)
 Q (.ret (.tuple [t8,t9].toArray)) h)))) (fun v h=>Q (.pan v) h))
theorem X24_eq (t0 t1 t2 t3:Value) (h:AH) (Q:Res→AH→Prop):X24 t0 t1 t2 t3 h Q=wpC Tryd.prog L24 code24 (argA [t0,t1,t2,t3] Tryd.f24.ntmps) h (retK Tryd.prog res24 Q):=by kernel_rfl
theorem X24_body:Tryd.f24.body=some code24:=by kernel_rfl
theorem X24_ok {t0 t1 t2 t3:Value} {h:AH} {Q:Res→AH→Prop} (H:X24 t0 t1 t2 t3 h Q):HC Tryd.prog 24 [t0,t1,t2,t3].toArray h Q:=HC.body Tryd.func24 X24_body ((X24_eq t0 t1 t2 t3 h Q).mp H)
noncomputable def code25:Code:=match Tryd.f25.body with | some c=>c | none=>.skip
noncomputable def res25:List ResultVar:=Tryd.f25.results.toList
def L25:Nat→Option (List Nat):=fun r=>none
noncomputable def X25 (t0:Value) (h:AH) (Q:Res→AH→Prop):Prop :=
 (fun t1 h =>
 let t2:Value:=(Value.bool false)
 bq (fa 3 1 t1) fun t3 =>
 bq (ld1 h t3) fun t4 =>
 bq (binV Tryd.prog .geq 3 (.tmp 4) (.const (Value.int .i64 1)) t4 (Value.int .i64 1) h) fun t5 =>
 let t6:Value:=t5
 guardQ t6 true h (fun k=>bq (fa 3 1 t1) fun v=>k v h) fun t7 h =>
 guardQ t6 true h (fun k=>bq (ld1 h t7) fun v=>k v h) fun t8 h =>
 guardQ t6 true h (fun k=>bq (binV Tryd.prog .leq 3 (.tmp 8) (.const (Value.int .i64 4096)) t8 (Value.int .i64 4096) h) fun v=>k v h) fun t9 h =>
 bq (pickV t6 t9 (Value.bool false)) fun t10 =>
 let t2:Value:=t10
 Q (.ret t2) h) (opNew h 34 t0.cells).1 (opNew h 34 t0.cells).2
theorem X25_eq (t0:Value) (h:AH) (Q:Res→AH→Prop):X25 t0 h Q=wpC Tryd.prog L25 code25 (argA [t0] Tryd.f25.ntmps) h (retK Tryd.prog res25 Q):=by kernel_rfl
theorem X25_body:Tryd.f25.body=some code25:=by kernel_rfl
theorem X25_ok {t0:Value} {h:AH} {Q:Res→AH→Prop} (H:X25 t0 h Q):HC Tryd.prog 25 [t0].toArray h Q:=HC.body Tryd.func25 X25_body ((X25_eq t0 h Q).mp H)
noncomputable def code27:Code:=match Tryd.f27.body with | some c=>c | none=>.skip
noncomputable def res27:List ResultVar:=Tryd.f27.results.toList
def L27:Nat→Option (List Nat):=fun r=>if r=1 then some [0,1,2,8,9,10] else none
noncomputable def H27_1 (t0 t1 t2 t8 t9 t10:Value) (h:AH) (Q:Res→AH→Prop):Prop:=HL Tryd.prog (cAt code27 [.l,.r,.i,.i]) (mkA 34 [(0,t0),(1,t1),(2,t2),(8,t8),(9,t9),(10,t10)]) h (ctxAt Tryd.prog L27 code27 [.l,.r,.i] (retK Tryd.prog res27 Q))
noncomputable def X27_1 (t0 t1 t2 t8 t9 t10:Value) (h:AH) (Q:Res→AH→Prop):Prop :=
 bq (binV Tryd.prog .lss 3 (.tmp 10) (.tmp 9) t10 t9 h) fun t11 =>
 condP (some t11)
 (bq (ia 1 t8 t10) fun t12 =>
 bq (ld1 h t12) fun t13 =>
 let t7:Value:=t13
 let t14:Value:=t7
 bq (nilV Tryd.prog t14) fun t15 =>
 bq (fa 1 1 t15) fun t16 =>
 bq (ld1 h t16) fun t17 =>
 let t18:Value:=t2
 invokeP Tryd.prog t18 "mahout/tree.weight" [] h (fun t19 h =>
 ((bq (ld1 h t16) fun u=>(u=t17))∧(True)) ∧
 bq (binV Tryd.prog .sub 3 (.tmp 17) (.tmp 19) t17 t19 h) fun t20 =>
 bq (nilV Tryd.prog t14) fun t21 =>
 bq (fa 1 1 t21) fun t22 =>
 bq (stN 1 h t22 t20) fun h=>(fun q3_9 h =>
 (True) ∧
 bq (binV Tryd.prog .add 3 (.tmp 10) (.const (Value.int .i64 1)) t10 (Value.int .i64 1) h) fun t23 =>
 let t10:Value:=t23
 H27_1 t0 t1 t2 t8 t9 t10 h Q) undef h) (fun v h=>Q (.pan v) h))
 (let t24:Value:=t0
 let t25:Value:=t0
 bq (lenL t25) fun t26 =>
 bq (binV Tryd.prog .sub 3 (.tmp 26) (.const (Value.int .i64 1)) t26 (Value.int .i64 1) h) fun t27 =>
 bq (ia 1 t24 t27) fun t28 =>
 bq (ld1 h t28) fun t29 =>
 bq (nilV Tryd.prog t29) fun t30 =>
 bq (fa 2 1 t30) fun t31 =>
 bq (ld1 h t31) fun t32 =>
 let t33:Value:=t1
 bq (opDelete Tryd.prog h 65 t32 t33) fun h=>(fun _ h =>
 Q (.ret (.tuple [].toArray)) h) (Value.tuple #[]) h)
theorem X27_1_eq (t0 t1 t2 t8 t9 t10:Value) (h:AH) (Q:Res→AH→Prop):X27_1 t0 t1 t2 t8 t9 t10 h Q=wpC Tryd.prog L27 (cAt code27 [.l,.r,.i,.i]) (mkA 34 [(0,t0),(1,t1),(2,t2),(8,t8),(9,t9),(10,t10)]) h (ctxAt Tryd.prog L27 code27 [.l,.r,.i,.i] (retK Tryd.prog res27 Q)):=by kernel_rfl
theorem X27_1_ok {t0 t1 t2 t8 t9 t10:Value} {h:AH} {Q:Res→AH→Prop} (H:X27_1 t0 t1 t2 t8 t9 t10 h Q):H27_1 t0 t1 t2 t8 t9 t10 h Q:=HL.step (L:=L27) ((X27_1_eq t0 t1 t2 t8 t9 t10 h Q).mp H)
noncomputable def X27 (t0 t1 t2:Value) (h:AH) (Q:Res→AH→Prop):Prop :=
 let t8:Value:=t0
 bq (lenL t8) fun t9 =>
 let t10:Value:=(Value.int .i64 0)
 H27_1 t0 t1 t2 t8 t9 t10 h Q
theorem X27_eq (t0 t1 t2:Value) (h:AH) (Q:Res→AH→Prop):X27 t0 t1 t2 h Q=wpC Tryd.prog L27 code27 (argA [t0,t1,t2] Tryd.f27.ntmps) h (retK Tryd.prog res27 Q):=by kernel_rfl
theorem X27_body:Tryd.f27.body=some code27:=by kernel_rfl
theorem X27_ok {t0 t1 t2:Value} {h:AH} {Q:Res→AH→Prop} (H:X27 t0 t1 t2 h Q):HC Tryd.prog 27 [t0,t1,t2].toArray h Q:=HC.body Tryd.func27 X27_body ((X27_eq t0 t1 t2 h Q).mp H)
noncomputable def code33:Code:=match Tryd.f33.body with | some c=>c | none=>.skip
noncomputable def res33:List ResultVar:=Tryd.f33.results.toList
def L33:Nat→Option (List Nat):=fun r=>if r=4 then some [7,8,18,19,20] else none
noncomputable def H33_4 (t7 t8 t18 t19 t20:Value) (h:AH) (Q:Res→AH→Prop):Prop:=HL Tryd.prog (cAt code33 [.r,.r,.r,.l,.r,.i,.i]) (mkA 51 [(7,t7),(8,t8),(18,t18),(19,t19),(20,t20)]) h (ctxAt Tryd.prog L33 code33 [.r,.r,.r,.l,.r,.i] (retK Tryd.prog res33 Q))
noncomputable def X33_4 (t7 t8 t18 t19 t20:Value) (h:AH) (Q:Res→AH→Prop):Prop :=
 bq (binV Tryd.prog .lss 3 (.tmp 20) (.tmp 19) t20 t19 h) fun t21 =>
 condP (some t21)
 (bq (ia 1 t18 t20) fun t22 =>
 bq (ld1 h t22) fun t23 =>
 let t10:Value:=t23
 let t25:Value:=t8
 bq (opTypeAssert Tryd.prog t25 51 true) fun t26 =>
 let t24:Value:=t26
 bq (opExtract t24 0) fun t27 =>
 bq (opExtract t24 1) fun t28 =>
 let t11:Value:=t27
 let t12:Value:=t28
 let t29:Value:=t12
 bq (unV Tryd.prog .not t29) fun t30 =>
 condP (some t30)
 (let t31:Value:=t7
 let t4:Value:=t31
 let t5:Value:=Value.nilIface
 let t6:Value:=(Value.int .i64 72)
 Q (.ret (.tuple [t4,t5,t6].toArray)) h)
 (let t32:Value:=t7
 let t33:Value:=t11
 bq (bs 51 #[(Value.pointer none)] 1 h [(0,1,t33)]) fun r=>(fun t34 h =>
 bq (apT 51 1 8 (some (Value.pointer none)) h t32 t34) fun r=>(fun t35 h =>
 let t7:Value:=t35
 let t37:Value:=t11
 bq (nilV Tryd.prog t37) fun t38 =>
 bq (fa 2 1 t38) fun t39 =>
 bq (ld1 h t39) fun t40 =>
 let t41:Value:=t10
 bq (opLookup Tryd.prog h 65 t40 t41 true) fun t42 =>
 let t36:Value:=t42
 bq (opExtract t36 0) fun t43 =>
 bq (opExtract t36 1) fun t44 =>
 let t8:Value:=t43
 let t12:Value:=t44
 let t45:Value:=t12
 bq (unV Tryd.prog .not t45) fun t46 =>
 condP (some t46)
 (let t47:Value:=t7
 let t4:Value:=t47
 let t5:Value:=Value.nilIface
 let t6:Value:=(Value.int .i64 70)
 Q (.ret (.tuple [t4,t5,t6].toArray)) h)
 (bq (binV Tryd.prog .add 3 (.tmp 20) (.const (Value.int .i64 1)) t20 (Value.int .i64 1) h) fun t48 =>
 let t20:Value:=t48
 H33_4 t7 t8 t18 t19 t20 h Q)) r.1 r.2) r.1 r.2))
 (let t49:Value:=t7
 let t50:Value:=t8
 let t4:Value:=t49
 let t5:Value:=t50
 let t6:Value:=(Value.int .i64 0)
 Q (.ret (.tuple [t4,t5,t6].toArray)) h)
theorem X33_4_eq (t7 t8 t18 t19 t20:Value) (h:AH) (Q:Res→AH→Prop):X33_4 t7 t8 t18 t19 t20 h Q=wpC Tryd.prog L33 (cAt code33 [.r,.r,.r,.l,.r,.i,.i]) (mkA 51 [(7,t7),(8,t8),(18,t18),(19,t19),(20,t20)]) h (ctxAt Tryd.prog L33 code33 [.r,.r,.r,.l,.r,.i,.i] (retK Tryd.prog res33 Q)):=by kernel_rfl
theorem X33_4_ok {t7 t8 t18 t19 t20:Value} {h:AH} {Q:Res→AH→Prop} (H:X33_4 t7 t8 t18 t19 t20 h Q):H33_4 t7 t8 t18 t19 t20 h Q:=HL.step (L:=L33) ((X33_4_eq t7 t8 t18 t19 t20 h Q).mp H)
noncomputable def X33 (t0 t1:Value) (h:AH) (Q:Res→AH→Prop):Prop :=
 let t4:Value:=(Value.slice none 0 0)
 let t5:Value:=Value.nilIface
 let t6:Value:=(Value.int .i64 0)
 let t7:Value:=(Value.slice none 0 0)
 let t13:Value:=t0
 bq (nilV Tryd.prog t13) fun t14 =>
 bq (fa 0 1 t14) fun t15 =>
 bq (ld1 h t15) fun t16 =>
 bq (mi 51 t16) fun t17 =>
 let t8:Value:=t17
 let t18:Value:=t1
 bq (lenL t18) fun t19 =>
 let t20:Value:=(Value.int .i64 0)
 H33_4 t7 t8 t18 t19 t20 h Q
theorem X33_eq (t0 t1:Value) (h:AH) (Q:Res→AH→Prop):X33 t0 t1 h Q=wpC Tryd.prog L33 code33 (argA [t0,t1] Tryd.f33.ntmps) h (retK Tryd.prog res33 Q):=by kernel_rfl
theorem X33_body:Tryd.f33.body=some code33:=by kernel_rfl
theorem X33_ok {t0 t1:Value} {h:AH} {Q:Res→AH→Prop} (H:X33 t0 t1 h Q):HC Tryd.prog 33 [t0,t1].toArray h Q:=HC.body Tryd.func33 X33_body ((X33_eq t0 t1 h Q).mp H)
noncomputable def code101:Code:=match Tryd.f101.body with | some c=>c | none=>.skip
noncomputable def res101:List ResultVar:=Tryd.f101.results.toList
def L101:Nat→Option (List Nat):=fun r=>if r=2 then some [9] else none
noncomputable def H101_2 (t9:Value) (h:AH) (Q:Res→AH→Prop):Prop:=HL Tryd.prog (cAt code101 [.r,.l,.r,.i,.i]) (mkA 16 [(9,t9)]) h (ctxAt Tryd.prog L101 code101 [.r,.l,.r,.i] (retK Tryd.prog res101 Q))
noncomputable def X101_2 (t9:Value) (h:AH) (Q:Res→AH→Prop):Prop :=
 nextP Tryd.prog h t9 false (fun t10 h =>
 bq (opExtract t10 0) fun t11 =>
 condP (some t11)
 (bq (opEntry h t9) fun t12 =>
 bq (opExtract t12 1) fun t13 =>
 let t4:Value:=t13
 let t14:Value:=t4
 invokeP Tryd.prog t14 "mahout/tree.opened" [] h (fun t15 h =>
 condP (some t15)
 (let t2:Value:=(Value.bool true)
 Q (.ret t2) h)
 (H101_2 t9 h Q)) (fun v h=>Q (.pan v) h))
 (let t2:Value:=(Value.bool false)
 Q (.ret t2) h))
theorem X101_2_eq (t9:Value) (h:AH) (Q:Res→AH→Prop):X101_2 t9 h Q=wpC Tryd.prog L101 (cAt code101 [.r,.l,.r,.i,.i]) (mkA 16 [(9,t9)]) h (ctxAt Tryd.prog L101 code101 [.r,.l,.r,.i,.i] (retK Tryd.prog res101 Q)):=by kernel_rfl
theorem X101_2_ok {t9:Value} {h:AH} {Q:Res→AH→Prop} (H:X101_2 t9 h Q):H101_2 t9 h Q:=HL.step (L:=L101) ((X101_2_eq t9 h Q).mp H)
noncomputable def X101 (t0:Value) (h:AH) (Q:Res→AH→Prop):Prop :=
 let t2:Value:=(Value.bool false)
 let t5:Value:=t0
 bq (nilV Tryd.prog t5) fun t6 =>
 bq (fa 2 1 t6) fun t7 =>
 bq (ld1 h t7) fun t8 =>
 bq (opRange Tryd.prog h 65 t8) fun r=>(fun t9 h =>
 H101_2 t9 h Q) r.1 r.2
theorem X101_eq (t0:Value) (h:AH) (Q:Res→AH→Prop):X101 t0 h Q=wpC Tryd.prog L101 code101 (argA [t0] Tryd.f101.ntmps) h (retK Tryd.prog res101 Q):=by kernel_rfl
theorem X101_body:Tryd.f101.body=some code101:=by kernel_rfl
theorem X101_ok {t0:Value} {h:AH} {Q:Res→AH→Prop} (H:X101 t0 h Q):HC Tryd.prog 101 [t0].toArray h Q:=HC.body Tryd.func101 X101_body ((X101_eq t0 h Q).mp H)
noncomputable def code102:Code:=match Tryd.f102.body with | some c=>c | none=>.skip
noncomputable def res102:List ResultVar:=Tryd.f102.results.toList
def L102:Nat→Option (List Nat):=fun r=>none
noncomputable def X102 (t0:Value) (h:AH) (Q:Res→AH→Prop):Prop :=
 let t2:Value:=(Value.int .i64 0)
 let t3:Value:=t0
 bq (nilV Tryd.prog t3) fun t4 =>
 bq (fa 1 1 t4) fun t5 =>
 bq (ld1 h t5) fun t6 =>
 bq (binV Tryd.prog .add 3 (.const (Value.int .i64 1)) (.tmp 6) (Value.int .i64 1) t6 h) fun t7 =>
 let t2:Value:=t7
 Q (.ret t2) h
theorem X102_eq (t0:Value) (h:AH) (Q:Res→AH→Prop):X102 t0 h Q=wpC Tryd.prog L102 code102 (argA [t0] Tryd.f102.ntmps) h (retK Tryd.prog res102 Q):=by kernel_rfl
theorem X102_body:Tryd.f102.body=some code102:=by kernel_rfl
theorem X102_ok {t0:Value} {h:AH} {Q:Res→AH→Prop} (H:X102 t0 h Q):HC Tryd.prog 102 [t0].toArray h Q:=HC.body Tryd.func102 X102_body ((X102_eq t0 h Q).mp H)
noncomputable def code103:Code:=match Tryd.f103.body with | some c=>c | none=>.skip
noncomputable def res103:List ResultVar:=Tryd.f103.results.toList
def L103:Nat→Option (List Nat):=fun r=>none
noncomputable def X103 (t0:Value) (h:AH) (Q:Res→AH→Prop):Prop :=
 let t2:Value:=(Value.bool false)
 let t3:Value:=t0
 bq (nilV Tryd.prog t3) fun t4 =>
 bq (fa 0 1 t4) fun t5 =>
 bq (ld1 h t5) fun t6 =>
 let t2:Value:=t6
 Q (.ret t2) h
theorem X103_eq (t0:Value) (h:AH) (Q:Res→AH→Prop):X103 t0 h Q=wpC Tryd.prog L103 code103 (argA [t0] Tryd.f103.ntmps) h (retK Tryd.prog res103 Q):=by kernel_rfl
theorem X103_body:Tryd.f103.body=some code103:=by kernel_rfl
theorem X103_ok {t0:Value} {h:AH} {Q:Res→AH→Prop} (H:X103 t0 h Q):HC Tryd.prog 103 [t0].toArray h Q:=HC.body Tryd.func103 X103_body ((X103_eq t0 h Q).mp H)
noncomputable def code104:Code:=match Tryd.f104.body with | some c=>c | none=>.skip
noncomputable def res104:List ResultVar:=Tryd.f104.results.toList
def L104:Nat→Option (List Nat):=fun r=>none
noncomputable def X104 (t0:Value) (h:AH) (Q:Res→AH→Prop):Prop :=
 let t2:Value:=(Value.int .i64 0)
 let t2:Value:=(Value.int .i64 1)
 Q (.ret t2) h
theorem X104_eq (t0:Value) (h:AH) (Q:Res→AH→Prop):X104 t0 h Q=wpC Tryd.prog L104 code104 (argA [t0] Tryd.f104.ntmps) h (retK Tryd.prog res104 Q):=by kernel_rfl
theorem X104_body:Tryd.f104.body=some code104:=by kernel_rfl
theorem X104_ok {t0:Value} {h:AH} {Q:Res→AH→Prop} (H:X104 t0 h Q):HC Tryd.prog 104 [t0].toArray h Q:=HC.body Tryd.func104 X104_body ((X104_eq t0 h Q).mp H)
end Go.Proofs.YtgdnfoijhdpppaaDoor.X
end
section
namespace Go.Proofs.YtgdnfoijhdpppaaDoor.L
open Go.Ab Go.Tr Go.Mh Go.Proofs.YtgdnfoijhdpppaaDoor.X
set_option maxRecDepth 100000
def encPc (x:Pc):Value:=.agg #[.int .i64 x.c,.int .i64 x.k,.int .i64 x.t,.int .i64 x.s,.int .u32 x.u]
abbrev ptr (b:Nat):Value:=.pointer (some ⟨b,0,none⟩)
def ifcR:Row→Value
 | .file b _ _ _ _=>.iface 56 (ptr b)
 | .dir b _ _ _ _ _=>.iface 51 (ptr b)
def ifc:Option Row→Value
 | some r=>ifcR r
 | none=>.nilIface
def ent (σ:St) (p:Pt) (x:Nm × Nat):MapEntry:={ key:=.string (mkB x.1),val:=ifc (σ (p++[x.1])),born:=x.2 }
def own:Row→List Nat
 | .file b sl _ _ _=>b::(blkOf sl).toList
 | .dir b m _ _ _ _=>[b,m]
def RowH (h:AH) (σ:St) (p:Pt):Row→Prop
 | .file b sl o hd ps=>h.get b=some (.cells #[.bool o,.int .i64 hd,sl] 58 (0,0),none)∧Hld 34 5 h 0 sl (ps.map encPc)∧blkOf sl ≠ some b∧ps.length ≤ 1024
 | .dir b m clk q c ks=>h.get b=some (.cells #[.int .i64 q,.int .i64 c,.map (some m)] 67 (0,0),none)∧h.get m=some (.map (ks.map (ent σ p)).toArray clk,none)∧b ≠ m
structure TW (h:AH) (lo:Nat) (σ:St):Prop where
 rows:∀ p r,σ p=some r→RowH h σ p r
 apart:∀ p q r s k,σ p=some r→σ q=some s→k ∈ own r→k ∈ own s→p=q
 bnd:∀ p r k,σ p=some r→k ∈ own r→lo ≤ k∧k < h.size
theorem RowH.mono {h h':AH} {σ:St} {p:Pt} {r:Row} (x:RowH h σ p r) (hg:∀ k,k ∈ own r→h'.get k=h.get k):RowH h' σ p r:=by
 cases r with
 | file b sl o hd ps =>
  obtain ⟨h1,h2,h3,h4⟩:=x
  exact ⟨(hg b (by simp [own])).trans h1,h2.mono fun k hk=>hg k (by simp [own,hk]),h3,h4⟩
 | dir b m clk q c ks =>
  obtain ⟨h1,h2,h3⟩:=x
  exact ⟨(hg b (by simp [own])).trans h1,(hg m (by simp [own])).trans h2,h3⟩
theorem TW.mono {h h':AH} {lo:Nat} {σ:St} (t:TW h lo σ) (hs:h.size ≤ h'.size) (hg:∀ p r k,σ p=some r→k ∈ own r→h'.get k=h.get k):TW h' lo σ :=
 ⟨fun p r hp=>(t.rows p r hp).mono fun k hk=>hg p r k hp hk,t.apart,fun p r k hp hk=>⟨(t.bnd p r k hp hk).1,Nat.lt_of_lt_of_le (t.bnd p r k hp hk).2 hs⟩⟩
theorem TW.kp {h h':AH} {lo:Nat} {σ:St} (t:TW h lo σ) (K:Kp h.size h h'):TW h' lo σ :=
 t.mono K.size fun p r k hp hk=>K.get k (t.bnd p r k hp hk).2
theorem TW.file {h:AH} {lo:Nat} {σ:St} (t:TW h lo σ) {p:Pt} {b:Nat} {sl:Value} {o:Bool} {hd:Int} {ps:List Pc} (hp:σ p=some (.file b sl o hd ps)) :
  h.get b=some (.cells #[.bool o,.int .i64 hd,sl] 58 (0,0),none)∧Hld 34 5 h 0 sl (ps.map encPc)∧blkOf sl ≠ some b∧ps.length ≤ 1024:=t.rows p _ hp
theorem TW.dir {h:AH} {lo:Nat} {σ:St} (t:TW h lo σ) {p:Pt} {b m clk:Nat} {q c:Int} {ks:List (Nm × Nat)} (hp:σ p=some (.dir b m clk q c ks)) :
  h.get b=some (.cells #[.int .i64 q,.int .i64 c,.map (some m)] 67 (0,0),none)∧h.get m=some (.map (ks.map (ent σ p)).toArray clk,none)∧b ≠ m:=t.rows p _ hp
theorem str_und:(Tryd.prog).underlying 9=some .string:=by kernel_rfl
theorem map_und:(Tryd.prog).underlying 65=some (.map 9 62):=by kernel_rfl
theorem node_zero:(((Tryd.prog).info? 62).bind (·.zero))=some .nilIface:=by kernel_rfl
theorem same_str (a b:ByteArray):Instr.sameNow .string (.string a) (.string b)=some (a == b):=rfl
theorem chk_str (e:Bool) (s:ByteArray):flat Tryd.prog (Instr.checkKey e 10000 9 (.string s))=some ():=by
 cases e <;> kernel_rfl
theorem find_kid {σ:St} {p:Pt} {ks:List (Nm × Nat)} {nm:Nm} {e:Bool}:opFind Tryd.prog 9 (.string (mkB nm)) (ks.map (ent σ p)).toArray e=some ((findW (fun x=>x.1 == nm) ks 0).map fun r=>(r.1,(ent σ p r.2).val)):=by
 refine opFind_now (d:=.string) str_und rfl (chk_str e _) fun x hx=>?_
 show Instr.sameNow .string (.string (mkB nm)) (.string (mkB x.1))=_
 rw [same_str]
 congr 1
 show ((mkB nm).data == (mkB x.1).data)=_
 rw [Bool.eq_iff_iff,beq_iff_eq,beq_iff_eq]
 exact ⟨fun h=>(mkB_inj (congrArg ByteArray.mk h)).symm,fun h=>by rw [h]⟩
theorem findW_none {α:Type} {p:α→Bool} {l:List α} {i:Nat} (h:∀ x ∈ l,p x=false):findW p l i=none:=by
 induction l generalizing i with
 | nil=>rfl
 | cons x l ih =>
  unfold findW
  rw [h x (by simp)]
  exact ih fun y hy=>h y (by simp [hy])
theorem findW_mem {α:Type} {p:α→Bool} {l:List α} {x:α} (hx:x ∈ l) (hp:p x=true):∃ i y,findW p l 0=some (i,y)∧y ∈ l∧p y=true:=by
 cases h:findW p l 0 with
 | none =>
  exfalso
  have:∀ (l:List α) (i:Nat),findW p l i=none→∀ x ∈ l,p x=false:=by
   intro l
   induction l with
   | nil=>intro i _ x hx;cases hx
   | cons y l ih =>
    intro i h x hx
    unfold findW at h
    split at h
    ·cases h
    ·rename_i hy
     rcases List.mem_cons.1 hx with rfl | hx
     ·simpa using hy
     ·exact ih _ h x hx
  rw [this l 0 h x hx] at hp;cases hp
 | some r =>
  obtain ⟨i,y⟩:=r
  obtain ⟨h1,h2⟩:=findW_at h
  exact ⟨i,y,rfl,List.mem_of_getElem? h1,h2⟩
theorem look_kid {h:AH} {lo:Nat} {σ:St} {K:List Pt} (t:TW h lo σ) (o:OkD σ K) {p:Pt} {b m clk:Nat} {q c:Int} {ks:List (Nm × Nat)} (hp:σ p=some (.dir b m clk q c ks)) (nm:Nm) :
  opLookup Tryd.prog h 65 (.map (some m)) (.string (mkB nm)) true=some (.tuple #[ifc (σ (p++[nm])),.bool (σ (p++[nm])).isSome]):=by
 obtain ⟨_,h2,_⟩:=t.dir hp
 rw [opLookup_eq map_und node_zero rfl h2 find_kid]
 have hk:=o.kids _ _ _ _ _ _ _ hp nm
 cases hs:σ (p++[nm]) with
 | none =>
  rw [hs] at hk
  have:findW (fun x=>x.1 == nm) ks 0=none:=findW_none fun x hx=>by
   rw [beq_eq_false_iff_ne]
   rintro rfl
   have:=hk.1 (List.mem_map.2 ⟨x,hx,rfl⟩)
   cases this
  rw [this]
  rfl
 | some r =>
  rw [hs] at hk
  obtain ⟨x,hx,hxn⟩:=List.mem_map.1 (hk.2 rfl)
  obtain ⟨i,y,e1,e2,e3⟩:=findW_mem (p:=fun x=>x.1 == nm) hx (by simpa using hxn)
  rw [e1]
  have e4:y.1=nm:=by simpa using e3
  show some (Value.tuple #[ifc (σ (p++[y.1])),.bool true])=_
  rw [e4,hs]
  rfl
end Go.Proofs.YtgdnfoijhdpppaaDoor.L
end
