/-
  PRINTED BY abin.py (this session's own): operations with types, at plain operands.
-/
import Derived.Test.YthjdohbkadpnjaaAbC
import Derived.Test.YthjdohbkadpnjaaProg
import Derived.KernelRfl
namespace Go.Proofs.Ythjdohbkadpnjaa.X
open Go.Ab
set_option linter.unusedVariables false
set_option maxRecDepth 100000
theorem bin_add_3 {a b : Int} {x y : Operand} {h : AH} : binV Try.prog .add 3 x y (.int .i64 a) (.int .i64 b) h = some (.int .i64 (IntKind.wrap .i64 (a + b))) := by kernel_rfl
theorem bin_eql_3 {a b : Int} {x y : Operand} {h : AH} : binV Try.prog .eql 3 x y (.int .i64 a) (.int .i64 b) h = some (.bool (a == b)) := by kernel_rfl
theorem bin_eql_32_nn {x y : Operand} {h : AH} : binV Try.prog .eql 32 x y (.pointer none) (.pointer none) h = some (.bool true) := by kernel_rfl
theorem bin_eql_32_an {k o : Nat} {x y : Operand} {h : AH} : binV Try.prog .eql 32 x y (.pointer (some ⟨k, o, none⟩)) (.pointer none) h = some (.bool false) := by kernel_rfl
theorem bin_eql_37 {a b : Nat} {x y : Operand} {h : AH} : binV Try.prog .eql 37 x y (.float .f64 a) (.float .f64 b) h = some (.bool ((FloatKind.f64.format.order a b) == some .eq)) := by kernel_rfl
theorem bin_geq_3 {a b : Int} {x y : Operand} {h : AH} : binV Try.prog .geq 3 x y (.int .i64 a) (.int .i64 b) h = some (.bool (decide (a ≥ b))) := by kernel_rfl
theorem bin_geq_37 {a b : Nat} {x y : Operand} {h : AH} : binV Try.prog .geq 37 x y (.float .f64 a) (.float .f64 b) h = some (.bool ((FloatKind.f64.format.order a b) == some .gt || (FloatKind.f64.format.order a b) == some .eq)) := by kernel_rfl
theorem bin_gtr_120 {a b : Int} {x y : Operand} {h : AH} : binV Try.prog .gtr 120 x y (.int .u64 a) (.int .u64 b) h = some (.bool (decide (a > b))) := by kernel_rfl
theorem bin_gtr_3 {a b : Int} {x y : Operand} {h : AH} : binV Try.prog .gtr 3 x y (.int .i64 a) (.int .i64 b) h = some (.bool (decide (a > b))) := by kernel_rfl
theorem bin_gtr_37 {a b : Nat} {x y : Operand} {h : AH} : binV Try.prog .gtr 37 x y (.float .f64 a) (.float .f64 b) h = some (.bool ((FloatKind.f64.format.order a b) == some .gt)) := by kernel_rfl
theorem bin_leq_3 {a b : Int} {x y : Operand} {h : AH} : binV Try.prog .leq 3 x y (.int .i64 a) (.int .i64 b) h = some (.bool (decide (a ≤ b))) := by kernel_rfl
theorem bin_leq_37 {a b : Nat} {x y : Operand} {h : AH} : binV Try.prog .leq 37 x y (.float .f64 a) (.float .f64 b) h = some (.bool ((FloatKind.f64.format.order a b) == some .lt || (FloatKind.f64.format.order a b) == some .eq)) := by kernel_rfl
theorem bin_lss_120 {a b : Int} {x y : Operand} {h : AH} : binV Try.prog .lss 120 x y (.int .u64 a) (.int .u64 b) h = some (.bool (decide (a < b))) := by kernel_rfl
theorem bin_lss_3 {a b : Int} {x y : Operand} {h : AH} : binV Try.prog .lss 3 x y (.int .i64 a) (.int .i64 b) h = some (.bool (decide (a < b))) := by kernel_rfl
theorem bin_lss_37 {a b : Nat} {x y : Operand} {h : AH} : binV Try.prog .lss 37 x y (.float .f64 a) (.float .f64 b) h = some (.bool ((FloatKind.f64.format.order a b) == some .lt)) := by kernel_rfl
theorem bin_mul_3 {a b : Int} {x y : Operand} {h : AH} : binV Try.prog .mul 3 x y (.int .i64 a) (.int .i64 b) h = some (.int .i64 (IntKind.wrap .i64 (a * b))) := by kernel_rfl
theorem bin_neq_120 {a b : Int} {x y : Operand} {h : AH} : binV Try.prog .neq 120 x y (.int .u64 a) (.int .u64 b) h = some (.bool (a != b)) := by kernel_rfl
theorem bin_neq_3 {a b : Int} {x y : Operand} {h : AH} : binV Try.prog .neq 3 x y (.int .i64 a) (.int .i64 b) h = some (.bool (a != b)) := by kernel_rfl
theorem bin_neq_37 {a b : Nat} {x y : Operand} {h : AH} : binV Try.prog .neq 37 x y (.float .f64 a) (.float .f64 b) h = some (.bool ((FloatKind.f64.format.order a b) != some .eq)) := by kernel_rfl
theorem bin_neq_4 {a b : Bool} {x y : Operand} {h : AH} : binV Try.prog .neq 4 x y (.bool a) (.bool b) h = some (.bool (a != b)) := by kernel_rfl
theorem bin_rem_3 {a b : Int} {x y : Operand} {h : AH} (hb : b ≠ 0) : binV Try.prog .rem 3 x y (.int .i64 a) (.int .i64 b) h = some (.int .i64 (a.tmod b)) := by 
  cases b with
  | ofNat n => cases n with
    | zero => exact absurd rfl hb
    | succ n => kernel_rfl
  | negSucc n => kernel_rfl
theorem bin_sub_3 {a b : Int} {x y : Operand} {h : AH} : binV Try.prog .sub 3 x y (.int .i64 a) (.int .i64 b) h = some (.int .i64 (IntKind.wrap .i64 (a - b))) := by kernel_rfl
theorem eqs_25 {x0 y0 : Int} {x1 y1 : Int} {x2 y2 : Int} : flat Try.prog (Op.equalIn 10000 25 (.agg #[(.int .i64 x0), (.int .i64 x1), (.int .i64 x2)]) (.agg #[(.int .i64 y0), (.int .i64 y1), (.int .i64 y2)])) = some ((x0 == y0) && ((x1 == y1) && ((x2 == y2) && true))) := by exact ((flat_struct (fs := #[⟨ "Client", 3, 0, false, "", "", 0⟩, ⟨ "Call", 3, 1, false, "", "", 8⟩, ⟨ "Try", 3, 2, false, "", "", 16⟩]) (by kernel_rfl) (by kernel_rfl)).trans (flat_fcons (a := (.int .i64 x0)) (b := (.int .i64 y0)) (r := (x0 == y0)) (by decide) (by kernel_rfl) (by kernel_rfl) (flat_eqInt (k := .i64) (by kernel_rfl)) (flat_fcons (a := (.int .i64 x1)) (b := (.int .i64 y1)) (r := (x1 == y1)) (by decide) (by kernel_rfl) (by kernel_rfl) (flat_eqInt (k := .i64) (by kernel_rfl)) (flat_fcons (a := (.int .i64 x2)) (b := (.int .i64 y2)) (r := (x2 == y2)) (by decide) (by kernel_rfl) (by kernel_rfl) (flat_eqInt (k := .i64) (by kernel_rfl)) flat_fnil))))
theorem bin_eql_25 {x0 y0 : Int} {x1 y1 : Int} {x2 y2 : Int} {x y : Operand} {h : AH} : binV Try.prog .eql 25 x y (.agg #[(.int .i64 x0), (.int .i64 x1), (.int .i64 x2)]) (.agg #[(.int .i64 y0), (.int .i64 y1), (.int .i64 y2)]) h = some (.bool ((x0 == y0) && ((x1 == y1) && ((x2 == y2) && true)))) := by exact bin_eqStruct (by kernel_rfl) rfl rfl eqs_25
theorem bin_neq_25 {x0 y0 : Int} {x1 y1 : Int} {x2 y2 : Int} {x y : Operand} {h : AH} : binV Try.prog .neq 25 x y (.agg #[(.int .i64 x0), (.int .i64 x1), (.int .i64 x2)]) (.agg #[(.int .i64 y0), (.int .i64 y1), (.int .i64 y2)]) h = some (.bool (!((x0 == y0) && ((x1 == y1) && ((x2 == y2) && true))))) := by exact bin_neqStruct (by kernel_rfl) rfl rfl eqs_25
theorem eqs_48 {x0 y0 : Int} {x1 y1 : Int} {x2 y2 : Int} : flat Try.prog (Op.equalIn 10000 48 (.agg #[(.int .i64 x0), (.int .i64 x1), (.int .i64 x2)]) (.agg #[(.int .i64 y0), (.int .i64 y1), (.int .i64 y2)])) = some ((x0 == y0) && ((x1 == y1) && ((x2 == y2) && true))) := by exact ((flat_struct (fs := #[⟨ "Client", 3, 0, false, "", "", 0⟩, ⟨ "Call", 3, 1, false, "", "", 8⟩, ⟨ "Try", 3, 2, false, "", "", 16⟩]) (by kernel_rfl) (by kernel_rfl)).trans (flat_fcons (a := (.int .i64 x0)) (b := (.int .i64 y0)) (r := (x0 == y0)) (by decide) (by kernel_rfl) (by kernel_rfl) (flat_eqInt (k := .i64) (by kernel_rfl)) (flat_fcons (a := (.int .i64 x1)) (b := (.int .i64 y1)) (r := (x1 == y1)) (by decide) (by kernel_rfl) (by kernel_rfl) (flat_eqInt (k := .i64) (by kernel_rfl)) (flat_fcons (a := (.int .i64 x2)) (b := (.int .i64 y2)) (r := (x2 == y2)) (by decide) (by kernel_rfl) (by kernel_rfl) (flat_eqInt (k := .i64) (by kernel_rfl)) flat_fnil))))
theorem bin_eql_48 {x0 y0 : Int} {x1 y1 : Int} {x2 y2 : Int} {x y : Operand} {h : AH} : binV Try.prog .eql 48 x y (.agg #[(.int .i64 x0), (.int .i64 x1), (.int .i64 x2)]) (.agg #[(.int .i64 y0), (.int .i64 y1), (.int .i64 y2)]) h = some (.bool ((x0 == y0) && ((x1 == y1) && ((x2 == y2) && true)))) := by exact bin_eqStruct (by kernel_rfl) rfl rfl eqs_48
theorem bin_neq_48 {x0 y0 : Int} {x1 y1 : Int} {x2 y2 : Int} {x y : Operand} {h : AH} : binV Try.prog .neq 48 x y (.agg #[(.int .i64 x0), (.int .i64 x1), (.int .i64 x2)]) (.agg #[(.int .i64 y0), (.int .i64 y1), (.int .i64 y2)]) h = some (.bool (!((x0 == y0) && ((x1 == y1) && ((x2 == y2) && true))))) := by exact bin_neqStruct (by kernel_rfl) rfl rfl eqs_48
theorem eqs_58 {x0 y0 : Int} {x1 y1 : Int} {x2 y2 : Int} {x3 y3 : Int} {x4 y4 : Int} {x5 y5 : Int} : flat Try.prog (Op.equalIn 10000 58 (.agg #[(.int .i64 x0), (.int .i64 x1), (.int .i64 x2), (.int .i64 x3), (.int .i64 x4), (.int .i64 x5)]) (.agg #[(.int .i64 y0), (.int .i64 y1), (.int .i64 y2), (.int .i64 y3), (.int .i64 y4), (.int .i64 y5)])) = some ((x0 == y0) && (((x1 == y1) && ((x2 == y2) && ((x3 == y3) && true))) && ((x4 == y4) && ((x5 == y5) && true)))) := by exact ((flat_struct (fs := #[⟨ "Kind", 3, 0, false, "", "", 0⟩, ⟨ "Block", 25, 1, false, "", "", 8⟩, ⟨ "Node", 3, 4, false, "", "", 32⟩, ⟨ "To", 3, 5, false, "", "", 40⟩]) (by kernel_rfl) (by kernel_rfl)).trans (flat_fcons (a := (.int .i64 x0)) (b := (.int .i64 y0)) (r := (x0 == y0)) (by decide) (by kernel_rfl) (by kernel_rfl) (flat_eqInt (k := .i64) (by kernel_rfl)) (flat_fcons (a := (.agg #[(.int .i64 x1), (.int .i64 x2), (.int .i64 x3)])) (b := (.agg #[(.int .i64 y1), (.int .i64 y2), (.int .i64 y3)])) (r := ((x1 == y1) && ((x2 == y2) && ((x3 == y3) && true)))) (by decide) (by kernel_rfl) (by kernel_rfl) ((flat_struct (fs := #[⟨ "Client", 3, 0, false, "", "", 0⟩, ⟨ "Call", 3, 1, false, "", "", 8⟩, ⟨ "Try", 3, 2, false, "", "", 16⟩]) (by kernel_rfl) (by kernel_rfl)).trans (flat_fcons (a := (.int .i64 x1)) (b := (.int .i64 y1)) (r := (x1 == y1)) (by decide) (by kernel_rfl) (by kernel_rfl) (flat_eqInt (k := .i64) (by kernel_rfl)) (flat_fcons (a := (.int .i64 x2)) (b := (.int .i64 y2)) (r := (x2 == y2)) (by decide) (by kernel_rfl) (by kernel_rfl) (flat_eqInt (k := .i64) (by kernel_rfl)) (flat_fcons (a := (.int .i64 x3)) (b := (.int .i64 y3)) (r := (x3 == y3)) (by decide) (by kernel_rfl) (by kernel_rfl) (flat_eqInt (k := .i64) (by kernel_rfl)) flat_fnil)))) (flat_fcons (a := (.int .i64 x4)) (b := (.int .i64 y4)) (r := (x4 == y4)) (by decide) (by kernel_rfl) (by kernel_rfl) (flat_eqInt (k := .i64) (by kernel_rfl)) (flat_fcons (a := (.int .i64 x5)) (b := (.int .i64 y5)) (r := (x5 == y5)) (by decide) (by kernel_rfl) (by kernel_rfl) (flat_eqInt (k := .i64) (by kernel_rfl)) flat_fnil)))))
theorem bin_eql_58 {x0 y0 : Int} {x1 y1 : Int} {x2 y2 : Int} {x3 y3 : Int} {x4 y4 : Int} {x5 y5 : Int} {x y : Operand} {h : AH} : binV Try.prog .eql 58 x y (.agg #[(.int .i64 x0), (.int .i64 x1), (.int .i64 x2), (.int .i64 x3), (.int .i64 x4), (.int .i64 x5)]) (.agg #[(.int .i64 y0), (.int .i64 y1), (.int .i64 y2), (.int .i64 y3), (.int .i64 y4), (.int .i64 y5)]) h = some (.bool ((x0 == y0) && (((x1 == y1) && ((x2 == y2) && ((x3 == y3) && true))) && ((x4 == y4) && ((x5 == y5) && true))))) := by exact bin_eqStruct (by kernel_rfl) rfl rfl eqs_58
theorem un_not {a : Bool} : unV Try.prog .not (.bool a) = some (.bool (!a)) := by kernel_rfl
theorem max_3 {a b : Int} : flatV Try.prog (Builtin.max_ #[3, 3] 3 [.int .i64 a, .int .i64 b].toArray) = some (.int .i64 (if b > a then b else a)) := by kernel_rfl
theorem min_3 {a b : Int} : flatV Try.prog (Builtin.min_ #[3, 3] 3 [.int .i64 a, .int .i64 b].toArray) = some (.int .i64 (if b < a then b else a)) := by kernel_rfl
theorem conv_3_120 {n : Int} {h : AH} : convV Try.prog 3 120 (.int .i64 n) h = some (.int .u64 (IntKind.wrap .u64 n), h) := by kernel_rfl
theorem rng_72 {h : AH} {m : Nat} : opRange Try.prog h 72 (.map (some m)) = rngE h m (h.get m) := by kernel_rfl
theorem rng_85 {h : AH} {m : Nat} : opRange Try.prog h 85 (.map (some m)) = rngE h m (h.get m) := by kernel_rfl
theorem hb_2 : hasBody Try.prog 2 = true := by kernel_rfl
theorem hb_3 : hasBody Try.prog 3 = true := by kernel_rfl
theorem hb_4 : hasBody Try.prog 4 = true := by kernel_rfl
theorem hb_5 : hasBody Try.prog 5 = true := by kernel_rfl
theorem hb_6 : hasBody Try.prog 6 = true := by kernel_rfl
theorem hb_7 : hasBody Try.prog 7 = true := by kernel_rfl
theorem hb_8 : hasBody Try.prog 8 = true := by kernel_rfl
theorem hb_9 : hasBody Try.prog 9 = true := by kernel_rfl
theorem hb_10 : hasBody Try.prog 10 = true := by kernel_rfl
theorem hb_11 : hasBody Try.prog 11 = true := by kernel_rfl
theorem hb_12 : hasBody Try.prog 12 = true := by kernel_rfl
theorem hb_13 : hasBody Try.prog 13 = true := by kernel_rfl
theorem hb_14 : hasBody Try.prog 14 = true := by kernel_rfl
theorem hb_15 : hasBody Try.prog 15 = true := by kernel_rfl
theorem hb_16 : hasBody Try.prog 16 = true := by kernel_rfl
theorem hb_17 : hasBody Try.prog 17 = true := by kernel_rfl
theorem hb_18 : hasBody Try.prog 18 = true := by kernel_rfl
theorem hb_19 : hasBody Try.prog 19 = true := by kernel_rfl
theorem hb_20 : hasBody Try.prog 20 = true := by kernel_rfl
theorem hb_21 : hasBody Try.prog 21 = true := by kernel_rfl
theorem hb_22 : hasBody Try.prog 22 = true := by kernel_rfl
theorem hb_23 : hasBody Try.prog 23 = true := by kernel_rfl
theorem hb_24 : hasBody Try.prog 24 = true := by kernel_rfl
theorem hb_25 : hasBody Try.prog 25 = true := by kernel_rfl
theorem hb_26 : hasBody Try.prog 26 = true := by kernel_rfl
theorem hb_27 : hasBody Try.prog 27 = true := by kernel_rfl
theorem hb_28 : hasBody Try.prog 28 = true := by kernel_rfl
theorem hb_29 : hasBody Try.prog 29 = true := by kernel_rfl
theorem hb_30 : hasBody Try.prog 30 = true := by kernel_rfl
theorem hb_31 : hasBody Try.prog 31 = true := by kernel_rfl
theorem hb_32 : hasBody Try.prog 32 = true := by kernel_rfl
theorem hb_33 : hasBody Try.prog 33 = true := by kernel_rfl
theorem hb_34 : hasBody Try.prog 34 = true := by kernel_rfl
theorem hb_35 : hasBody Try.prog 35 = true := by kernel_rfl
theorem hb_36 : hasBody Try.prog 36 = true := by kernel_rfl
theorem hb_37 : hasBody Try.prog 37 = true := by kernel_rfl
theorem hb_38 : hasBody Try.prog 38 = true := by kernel_rfl
theorem hb_39 : hasBody Try.prog 39 = true := by kernel_rfl
theorem hb_40 : hasBody Try.prog 40 = true := by kernel_rfl
theorem hb_41 : hasBody Try.prog 41 = true := by kernel_rfl
theorem hb_42 : hasBody Try.prog 42 = true := by kernel_rfl
theorem hb_43 : hasBody Try.prog 43 = true := by kernel_rfl
theorem hb_44 : hasBody Try.prog 44 = true := by kernel_rfl
theorem hb_45 : hasBody Try.prog 45 = true := by kernel_rfl
theorem hb_46 : hasBody Try.prog 46 = true := by kernel_rfl
theorem hb_47 : hasBody Try.prog 47 = true := by kernel_rfl
theorem hb_48 : hasBody Try.prog 48 = true := by kernel_rfl
theorem hb_49 : hasBody Try.prog 49 = true := by kernel_rfl
theorem hb_50 : hasBody Try.prog 50 = true := by kernel_rfl
theorem hb_51 : hasBody Try.prog 51 = true := by kernel_rfl
theorem hb_52 : hasBody Try.prog 52 = true := by kernel_rfl
theorem hb_53 : hasBody Try.prog 53 = true := by kernel_rfl
theorem hb_54 : hasBody Try.prog 54 = true := by kernel_rfl
theorem hb_55 : hasBody Try.prog 55 = true := by kernel_rfl
theorem hb_56 : hasBody Try.prog 56 = true := by kernel_rfl
theorem hb_57 : hasBody Try.prog 57 = true := by kernel_rfl
theorem hb_58 : hasBody Try.prog 58 = true := by kernel_rfl
theorem hb_59 : hasBody Try.prog 59 = true := by kernel_rfl
theorem hb_60 : hasBody Try.prog 60 = true := by kernel_rfl
theorem hb_61 : hasBody Try.prog 61 = true := by kernel_rfl
theorem hb_62 : hasBody Try.prog 62 = true := by kernel_rfl
theorem hb_63 : hasBody Try.prog 63 = true := by kernel_rfl
theorem hb_64 : hasBody Try.prog 64 = true := by kernel_rfl
theorem hb_65 : hasBody Try.prog 65 = true := by kernel_rfl
theorem hb_66 : hasBody Try.prog 66 = true := by kernel_rfl
theorem hb_67 : hasBody Try.prog 67 = true := by kernel_rfl
theorem hb_68 : hasBody Try.prog 68 = true := by kernel_rfl
theorem hb_69 : hasBody Try.prog 69 = true := by kernel_rfl
theorem hb_70 : hasBody Try.prog 70 = true := by kernel_rfl
theorem hb_71 : hasBody Try.prog 71 = true := by kernel_rfl
theorem hb_72 : hasBody Try.prog 72 = true := by kernel_rfl
theorem hb_73 : hasBody Try.prog 73 = true := by kernel_rfl
theorem hb_74 : hasBody Try.prog 74 = true := by kernel_rfl
theorem hb_75 : hasBody Try.prog 75 = true := by kernel_rfl
theorem hb_76 : hasBody Try.prog 76 = true := by kernel_rfl
theorem hb_77 : hasBody Try.prog 77 = true := by kernel_rfl
theorem hb_78 : hasBody Try.prog 78 = true := by kernel_rfl
theorem hb_79 : hasBody Try.prog 79 = true := by kernel_rfl
theorem hb_80 : hasBody Try.prog 80 = true := by kernel_rfl
theorem hb_81 : hasBody Try.prog 81 = true := by kernel_rfl
theorem hb_82 : hasBody Try.prog 82 = true := by kernel_rfl
theorem hb_83 : hasBody Try.prog 83 = true := by kernel_rfl
theorem hb_84 : hasBody Try.prog 84 = true := by kernel_rfl
theorem hb_85 : hasBody Try.prog 85 = true := by kernel_rfl
theorem hb_86 : hasBody Try.prog 86 = true := by kernel_rfl
theorem hb_87 : hasBody Try.prog 87 = true := by kernel_rfl
theorem hb_88 : hasBody Try.prog 88 = true := by kernel_rfl
theorem hb_89 : hasBody Try.prog 89 = true := by kernel_rfl
theorem hb_90 : hasBody Try.prog 90 = true := by kernel_rfl
theorem hb_91 : hasBody Try.prog 91 = true := by kernel_rfl
theorem hb_92 : hasBody Try.prog 92 = true := by kernel_rfl
theorem hb_93 : hasBody Try.prog 93 = true := by kernel_rfl
theorem hb_94 : hasBody Try.prog 94 = true := by kernel_rfl
theorem hb_95 : hasBody Try.prog 95 = true := by kernel_rfl
theorem hb_96 : hasBody Try.prog 96 = true := by kernel_rfl
theorem hb_97 : hasBody Try.prog 97 = true := by kernel_rfl
theorem hb_98 : hasBody Try.prog 98 = true := by kernel_rfl
theorem hb_99 : hasBody Try.prog 99 = true := by kernel_rfl
theorem hb_100 : hasBody Try.prog 100 = true := by kernel_rfl
theorem hb_101 : hasBody Try.prog 101 = true := by kernel_rfl
theorem hb_102 : hasBody Try.prog 102 = true := by kernel_rfl
theorem hb_103 : hasBody Try.prog 103 = true := by kernel_rfl
theorem hb_104 : hasBody Try.prog 104 = true := by kernel_rfl
theorem hb_105 : hasBody Try.prog 105 = true := by kernel_rfl
theorem hb_106 : hasBody Try.prog 106 = true := by kernel_rfl
end Go.Proofs.Ythjdohbkadpnjaa.X
