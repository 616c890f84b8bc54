import Derived.KernelRfl
import Derived.Test.YtibigfkeaemanaaGreatDoorProg
import Derived.Test.YtibigfkeaemanaaGreatDoorZ14
import Derived.Test.YtibigfkeaemanaaGreatDoorZ16
set_option linter.unusedVariables false
set_option linter.unusedSimpArgs false
section
namespace Go.Proofs.YtibigfkeaemanaaGreatDoor.X
open Go.Ab
set_option maxRecDepth 100000
theorem bin_add_3 {a b:Int} {x y:Operand} {h:AH}:binV Tryz.prog .add 3 x y (.int .i64 a) (.int .i64 b) h=some (.int .i64 (IntKind.wrap .i64 (a + b))):=by kernel_rfl
theorem bin_add_5 {a b:Int} {x y:Operand} {h:AH}:binV Tryz.prog .add 5 x y (.int .u8 a) (.int .u8 b) h=some (.int .u8 (IntKind.wrap .u8 (a + b))):=by kernel_rfl
theorem bin_add_9 {a b:ByteArray} {x y:Operand} {h:AH} (hs:a.size + b.size ≤ 9223372036854775807):binV Tryz.prog .add 9 x y (.string a) (.string b) h=some (.string (a++b)):=by exact bin_cat (by kernel_rfl) hs
theorem bin_eql_117_ii {t:Nat} {h:AH}:binV Tryz.prog .eql 117 (.tmp t) (.const Value.nilIface) .nilIface .nilIface h=some (.bool true):=by kernel_rfl
theorem bin_eql_22_nn {x y:Operand} {h:AH}:binV Tryz.prog .eql 22 x y (.pointer none) (.pointer none) h=some (.bool true):=by kernel_rfl
theorem bin_eql_22_an {k o:Nat} {x y:Operand} {h:AH}:binV Tryz.prog .eql 22 x y (.pointer (some ⟨k,o,none⟩)) (.pointer none) h=some (.bool false):=by kernel_rfl
theorem bin_eql_3 {a b:Int} {x y:Operand} {h:AH}:binV Tryz.prog .eql 3 x y (.int .i64 a) (.int .i64 b) h=some (.bool (a == b)):=by kernel_rfl
theorem bin_eql_4 {a b:Bool} {x y:Operand} {h:AH}:binV Tryz.prog .eql 4 x y (.bool a) (.bool b) h=some (.bool (a == b)):=by kernel_rfl
theorem bin_eql_5 {a b:Int} {x y:Operand} {h:AH}:binV Tryz.prog .eql 5 x y (.int .u8 a) (.int .u8 b) h=some (.bool (a == b)):=by kernel_rfl
theorem bin_eql_53 {a b:Int} {x y:Operand} {h:AH}:binV Tryz.prog .eql 53 x y (.int .i64 a) (.int .i64 b) h=some (.bool (a == b)):=by kernel_rfl
theorem bin_eql_9 {a b:ByteArray} {x y:Operand} {h:AH}:binV Tryz.prog .eql 9 x y (.string a) (.string b) h=some (.bool (a.toList == b.toList)):=by kernel_rfl
theorem bin_geq_3 {a b:Int} {x y:Operand} {h:AH}:binV Tryz.prog .geq 3 x y (.int .i64 a) (.int .i64 b) h=some (.bool (decide (a ≥ b))):=by kernel_rfl
theorem bin_geq_5 {a b:Int} {x y:Operand} {h:AH}:binV Tryz.prog .geq 5 x y (.int .u8 a) (.int .u8 b) h=some (.bool (decide (a ≥ b))):=by kernel_rfl
theorem bin_gtr_3 {a b:Int} {x y:Operand} {h:AH}:binV Tryz.prog .gtr 3 x y (.int .i64 a) (.int .i64 b) h=some (.bool (decide (a > b))):=by kernel_rfl
theorem bin_gtr_5 {a b:Int} {x y:Operand} {h:AH}:binV Tryz.prog .gtr 5 x y (.int .u8 a) (.int .u8 b) h=some (.bool (decide (a > b))):=by kernel_rfl
theorem bin_leq_5 {a b:Int} {x y:Operand} {h:AH}:binV Tryz.prog .leq 5 x y (.int .u8 a) (.int .u8 b) h=some (.bool (decide (a ≤ b))):=by kernel_rfl
theorem bin_lss_3 {a b:Int} {x y:Operand} {h:AH}:binV Tryz.prog .lss 3 x y (.int .i64 a) (.int .i64 b) h=some (.bool (decide (a < b))):=by kernel_rfl
theorem bin_lss_5 {a b:Int} {x y:Operand} {h:AH}:binV Tryz.prog .lss 5 x y (.int .u8 a) (.int .u8 b) h=some (.bool (decide (a < b))):=by kernel_rfl
theorem bin_lss_9 {a b:ByteArray} {x y:Operand} {h:AH}:binV Tryz.prog .lss 9 x y (.string a) (.string b) h=some (.bool (Op.bytesLess a.toList b.toList)):=by kernel_rfl
theorem bin_mul_3 {a b:Int} {x y:Operand} {h:AH}:binV Tryz.prog .mul 3 x y (.int .i64 a) (.int .i64 b) h=some (.int .i64 (IntKind.wrap .i64 (a * b))):=by kernel_rfl
theorem bin_neq_117_ii {t:Nat} {h:AH}:binV Tryz.prog .neq 117 (.tmp t) (.const Value.nilIface) .nilIface .nilIface h=some (.bool false):=by kernel_rfl
theorem bin_neq_20_ii {t:Nat} {h:AH}:binV Tryz.prog .neq 20 (.tmp t) (.const Value.nilIface) .nilIface .nilIface h=some (.bool false):=by kernel_rfl
theorem bin_neq_3 {a b:Int} {x y:Operand} {h:AH}:binV Tryz.prog .neq 3 x y (.int .i64 a) (.int .i64 b) h=some (.bool (a != b)):=by kernel_rfl
theorem bin_neq_5 {a b:Int} {x y:Operand} {h:AH}:binV Tryz.prog .neq 5 x y (.int .u8 a) (.int .u8 b) h=some (.bool (a != b)):=by kernel_rfl
theorem bin_neq_53 {a b:Int} {x y:Operand} {h:AH}:binV Tryz.prog .neq 53 x y (.int .i64 a) (.int .i64 b) h=some (.bool (a != b)):=by kernel_rfl
theorem bin_neq_9 {a b:ByteArray} {x y:Operand} {h:AH}:binV Tryz.prog .neq 9 x y (.string a) (.string b) h=some (.bool (!(a.toList == b.toList))):=by kernel_rfl
theorem bin_quo_3 {a b:Int} {x y:Operand} {h:AH} (hb:b ≠ 0):binV Tryz.prog .quo 3 x y (.int .i64 a) (.int .i64 b) h=some (.int .i64 (IntKind.wrap .i64 (a.tdiv b))):=by
 cases b with
 | ofNat n=>cases n with
  | zero=>exact absurd rfl hb
  | succ n=>kernel_rfl
 | negSucc n=>kernel_rfl
theorem bin_rem_3 {a b:Int} {x y:Operand} {h:AH} (hb:b ≠ 0):binV Tryz.prog .rem 3 x y (.int .i64 a) (.int .i64 b) h=some (.int .i64 (a.tmod b)):=by
 cases b with
 | ofNat n=>cases n with
  | zero=>exact absurd rfl hb
  | succ n=>kernel_rfl
 | negSucc n=>kernel_rfl
theorem bin_sub_3 {a b:Int} {x y:Operand} {h:AH}:binV Tryz.prog .sub 3 x y (.int .i64 a) (.int .i64 b) h=some (.int .i64 (IntKind.wrap .i64 (a - b))):=by kernel_rfl
theorem bin_sub_5 {a b:Int} {x y:Operand} {h:AH}:binV Tryz.prog .sub 5 x y (.int .u8 a) (.int .u8 b) h=some (.int .u8 (IntKind.wrap .u8 (a - b))):=by kernel_rfl
theorem eqs_25 {x0 y0:Int} {x1 y1:Int}:flat Tryz.prog (Op.equalIn 10000 25 (.agg #[(.int .i64 x0),(.int .i64 x1)]) (.agg #[(.int .i64 y0),(.int .i64 y1)]))=some ((x0 == y0) && ((x1 == y1) && true)):=by exact ((flat_struct (fs:=#[⟨ "Code",23,0,false, "", "",0⟩,⟨ "At",3,1,false, "", "",8⟩]) (by kernel_rfl) (by kernel_rfl)).trans (flat_fcons (a:=(.int .i64 x0)) (b:=(.int .i64 y0)) (r:=(x0 == y0)) (by decide) (by kernel_rfl) (by kernel_rfl) (flat_eqInt (k:=.i64) (by kernel_rfl)) (flat_fcons (a:=(.int .i64 x1)) (b:=(.int .i64 y1)) (r:=(x1 == y1)) (by decide) (by kernel_rfl) (by kernel_rfl) (flat_eqInt (k:=.i64) (by kernel_rfl)) flat_fnil)))
theorem bin_neq_25 {x0 y0:Int} {x1 y1:Int} {x y:Operand} {h:AH}:binV Tryz.prog .neq 25 x y (.agg #[(.int .i64 x0),(.int .i64 x1)]) (.agg #[(.int .i64 y0),(.int .i64 y1)]) h=some (.bool (!((x0 == y0) && ((x1 == y1) && true)))):=by exact bin_neqStruct (by kernel_rfl) rfl rfl eqs_25
theorem eqs_37 {x0 y0:Int} {x1 y1:ByteArray}:flat Tryz.prog (Op.equalIn 10000 37 (.agg #[(.int .i64 x0),(.string x1)]) (.agg #[(.int .i64 y0),(.string y1)]))=some ((x0 == y0) && ((x1.toList == y1.toList) && true)):=by exact ((flat_struct (fs:=#[⟨ "At",3,0,false, "", "",0⟩,⟨ "Line",9,1,false, "", "",8⟩]) (by kernel_rfl) (by kernel_rfl)).trans (flat_fcons (a:=(.int .i64 x0)) (b:=(.int .i64 y0)) (r:=(x0 == y0)) (by decide) (by kernel_rfl) (by kernel_rfl) (flat_eqInt (k:=.i64) (by kernel_rfl)) (flat_fcons (a:=(.string x1)) (b:=(.string y1)) (r:=(x1.toList == y1.toList)) (by decide) (by kernel_rfl) (by kernel_rfl) (flat_eqStr (by kernel_rfl)) flat_fnil)))
theorem bin_neq_37 {x0 y0:Int} {x1 y1:ByteArray} {x y:Operand} {h:AH}:binV Tryz.prog .neq 37 x y (.agg #[(.int .i64 x0),(.string x1)]) (.agg #[(.int .i64 y0),(.string y1)]) h=some (.bool (!((x0 == y0) && ((x1.toList == y1.toList) && true)))):=by exact bin_neqStruct (by kernel_rfl) rfl rfl eqs_37
theorem eqs_40 {x0 y0:ByteArray} {x1 y1:ByteArray}:flat Tryz.prog (Op.equalIn 10000 40 (.agg #[(.string x0),(.string x1)]) (.agg #[(.string y0),(.string y1)]))=some ((x0.toList == y0.toList) && ((x1.toList == y1.toList) && true)):=by exact ((flat_struct (fs:=#[⟨ "Key",9,0,false, "", "",0⟩,⟨ "Value",9,1,false, "", "",16⟩]) (by kernel_rfl) (by kernel_rfl)).trans (flat_fcons (a:=(.string x0)) (b:=(.string y0)) (r:=(x0.toList == y0.toList)) (by decide) (by kernel_rfl) (by kernel_rfl) (flat_eqStr (by kernel_rfl)) (flat_fcons (a:=(.string x1)) (b:=(.string y1)) (r:=(x1.toList == y1.toList)) (by decide) (by kernel_rfl) (by kernel_rfl) (flat_eqStr (by kernel_rfl)) flat_fnil)))
theorem bin_eql_40 {x0 y0:ByteArray} {x1 y1:ByteArray} {x y:Operand} {h:AH}:binV Tryz.prog .eql 40 x y (.agg #[(.string x0),(.string x1)]) (.agg #[(.string y0),(.string y1)]) h=some (.bool ((x0.toList == y0.toList) && ((x1.toList == y1.toList) && true))):=by exact bin_eqStruct (by kernel_rfl) rfl rfl eqs_40
theorem bin_neq_40 {x0 y0:ByteArray} {x1 y1:ByteArray} {x y:Operand} {h:AH}:binV Tryz.prog .neq 40 x y (.agg #[(.string x0),(.string x1)]) (.agg #[(.string y0),(.string y1)]) h=some (.bool (!((x0.toList == y0.toList) && ((x1.toList == y1.toList) && true)))):=by exact bin_neqStruct (by kernel_rfl) rfl rfl eqs_40
theorem un_not {a:Bool}:unV Tryz.prog .not (.bool a)=some (.bool (!a)):=by kernel_rfl
theorem max_3 {a b:Int}:flatV Tryz.prog (Builtin.max_ #[3,3] 3 [.int .i64 a,.int .i64 b].toArray)=some (.int .i64 (if b > a then b else a)):=by kernel_rfl
theorem min_3 {a b:Int}:flatV Tryz.prog (Builtin.min_ #[3,3] 3 [.int .i64 a,.int .i64 b].toArray)=some (.int .i64 (if b < a then b else a)):=by kernel_rfl
theorem conv_3_5 {n:Int} {h:AH}:convV Tryz.prog 3 5 (.int .i64 n) h=some (.int .u8 (IntKind.wrap .u8 n),h):=by kernel_rfl
theorem conv_5_3 {n:Int} {h:AH}:convV Tryz.prog 5 3 (.int .u8 n) h=some (.int .i64 (IntKind.wrap .i64 n),h):=by kernel_rfl
theorem conv_5_72 {n:Int} {h:AH}:convV Tryz.prog 5 72 (.int .u8 n) h=some (.int .u32 (IntKind.wrap .u32 n),h):=by kernel_rfl
theorem conv_72_3 {n:Int} {h:AH}:convV Tryz.prog 72 3 (.int .u32 n) h=some (.int .i64 (IntKind.wrap .i64 n),h):=by kernel_rfl
theorem hb_16:hasBody Tryz.prog 16=true:=by kernel_rfl
theorem hb_19:hasBody Tryz.prog 19=true:=by kernel_rfl
theorem hb_39:hasBody Tryz.prog 39=true:=by kernel_rfl
theorem hb_40:hasBody Tryz.prog 40=true:=by kernel_rfl
theorem hb_41:hasBody Tryz.prog 41=true:=by kernel_rfl
theorem hb_64:hasBody Tryz.prog 64=true:=by kernel_rfl
theorem hb_67:hasBody Tryz.prog 67=true:=by kernel_rfl
theorem hb_68:hasBody Tryz.prog 68=true:=by kernel_rfl
theorem hb_77:hasBody Tryz.prog 77=true:=by kernel_rfl
theorem SXB:((((((type_of% @bin_add_3)∧((type_of% @bin_add_5)∧(type_of% @bin_add_9)))∧((type_of% @bin_eql_117_ii)∧((type_of% @bin_eql_22_nn)∧(type_of% @bin_eql_22_an))))∧(((type_of% @bin_eql_3)∧((type_of% @bin_eql_4)∧(type_of% @bin_eql_5)))∧(((type_of% @bin_eql_53)∧(type_of% @bin_eql_9))∧((type_of% @bin_geq_3)∧(type_of% @bin_geq_5)))))∧((((type_of% @bin_gtr_3)∧((type_of% @bin_gtr_5)∧(type_of% @bin_leq_5)))∧((type_of% @bin_lss_3)∧((type_of% @bin_lss_5)∧(type_of% @bin_lss_9))))∧(((type_of% @bin_mul_3)∧((type_of% @bin_neq_117_ii)∧(type_of% @bin_neq_20_ii)))∧(((type_of% @bin_neq_3)∧(type_of% @bin_neq_5))∧((type_of% @bin_neq_53)∧(type_of% @bin_neq_9))))))∧(((((type_of% @bin_quo_3)∧((type_of% @bin_rem_3)∧(type_of% @bin_sub_3)))∧((type_of% @bin_sub_5)∧((type_of% @eqs_25)∧(type_of% @bin_neq_25))))∧(((type_of% @eqs_37)∧((type_of% @bin_neq_37)∧(type_of% @eqs_40)))∧(((type_of% @bin_eql_40)∧(type_of% @bin_neq_40))∧((type_of% @un_not)∧(type_of% @max_3)))))∧((((type_of% @min_3)∧((type_of% @conv_3_5)∧(type_of% @conv_5_3)))∧(((type_of% @conv_5_72)∧(type_of% @conv_72_3))∧((type_of% @hb_16)∧(type_of% @hb_19))))∧(((type_of% @hb_39)∧((type_of% @hb_40)∧(type_of% @hb_41)))∧(((type_of% @hb_64)∧(type_of% @hb_67))∧((type_of% @hb_68)∧(type_of% @hb_77))))))):=⟨⟨⟨⟨⟨@bin_add_3,⟨@bin_add_5,@bin_add_9⟩⟩,⟨@bin_eql_117_ii,⟨@bin_eql_22_nn,@bin_eql_22_an⟩⟩⟩,⟨⟨@bin_eql_3,⟨@bin_eql_4,@bin_eql_5⟩⟩,⟨⟨@bin_eql_53,@bin_eql_9⟩,⟨@bin_geq_3,@bin_geq_5⟩⟩⟩⟩,⟨⟨⟨@bin_gtr_3,⟨@bin_gtr_5,@bin_leq_5⟩⟩,⟨@bin_lss_3,⟨@bin_lss_5,@bin_lss_9⟩⟩⟩,⟨⟨@bin_mul_3,⟨@bin_neq_117_ii,@bin_neq_20_ii⟩⟩,⟨⟨@bin_neq_3,@bin_neq_5⟩,⟨@bin_neq_53,@bin_neq_9⟩⟩⟩⟩⟩,⟨⟨⟨⟨@bin_quo_3,⟨@bin_rem_3,@bin_sub_3⟩⟩,⟨@bin_sub_5,⟨@eqs_25,@bin_neq_25⟩⟩⟩,⟨⟨@eqs_37,⟨@bin_neq_37,@eqs_40⟩⟩,⟨⟨@bin_eql_40,@bin_neq_40⟩,⟨@un_not,@max_3⟩⟩⟩⟩,⟨⟨⟨@min_3,⟨@conv_3_5,@conv_5_3⟩⟩,⟨⟨@conv_5_72,@conv_72_3⟩,⟨@hb_16,@hb_19⟩⟩⟩,⟨⟨@hb_39,⟨@hb_40,@hb_41⟩⟩,⟨⟨@hb_64,@hb_67⟩,⟨@hb_68,@hb_77⟩⟩⟩⟩⟩⟩
end Go.Proofs.YtibigfkeaemanaaGreatDoor.X
end
section
namespace Go.Lang
def eqT (a b:ByteArray):Bool:=a.toList == b.toList
structure Tok where
 cls:Nat
 at_:Nat
 text:ByteArray
inductive Expr where
 | mk (op:ByteArray) (at_ num:Nat) (text:ByteArray) (args:List Expr)
inductive Stmt where
 | mk (op name:ByteArray) (a b:Expr) (body els:List Stmt)
structure Prog where
 map:List Stmt
 combine:List Stmt
 reduce:List Stmt
 combines:Bool
 parts:Bool
 part:Expr
def empty:ByteArray:=⟨#[]⟩
def Expr.zero:Expr:=.mk empty 0 0 empty []
def Expr.at_:Expr→Nat | .mk _ a _ _ _=>a
def blank (c:UInt8):Bool:=c == 32 || c == 9 || c == 10 || c == 13
def letter (c:UInt8):Bool:=(97 ≤ c && c ≤ 122) || (65 ≤ c && c ≤ 90)
def digit (c:UInt8):Bool:=48 ≤ c && c ≤ 57
def alnum (c:UInt8):Bool:=letter c || digit c
def isMark (c:UInt8):Bool:=c == 123 || c == 125 || c == 40 || c == 41 || c == 44 || c == 59 || c == 61
def span (p:UInt8→Bool) (s:ByteArray):Nat→Nat→Nat
 | 0,i=>i
 | n + 1,i=>if i < s.size then (if p s[i]! then span p s n (i + 1) else i) else i
def esc (c:UInt8):Option UInt8:=if c == 34 then some 34 else if c == 92 then some 92 else if c == 110 then some 10 else if c == 116 then some 9 else none
def quotedF (s:ByteArray):Nat→Nat→List UInt8→Option (List UInt8 × Nat)
 | 0,_,_=>none
 | n + 1,i,acc =>
  if i < s.size then
   let c:=s[i]!
   if c == 34 then some (acc,i + 1)
   else if c < 32 || 126 < c then none
   else if c == 92 then
    if i + 1 < s.size then match esc s[i + 1]! with
     | some d=>quotedF s n (i + 2) (acc++[d])
     | none=>none
    else none
   else quotedF s n (i + 1) (acc++[c])
  else none
def tokF (s:ByteArray) (i:Nat):Option (Tok × Nat) :=
 let c:=s[i]!
 if letter c then let k:=span alnum s s.size (i + 1);some (⟨1,i,s.extract i k⟩,k)
 else if digit c then
  let k:=span digit s s.size (i + 1)
  if 9 < k - i || (1 < k - i && c == 48) then none else some (⟨2,i,s.extract i k⟩,k)
 else if c == 34 then match quotedF s s.size (i + 1) [] with
  | some (l,k)=>some (⟨3,i,⟨l.toArray⟩⟩,k)
  | none=>none
 else if isMark c then some (⟨4,i,s.extract i (i + 1)⟩,i + 1)
 else none
def scanF (s:ByteArray):Nat→Nat→Except Nat (List Tok)
 | 0,i=>.error i
 | n + 1,i =>
  if i < s.size then
   if blank s[i]! then scanF s n (i + 1)
   else match tokF s i with
    | none=>.error i
    | some (t,k)=>match scanF s n k with
     | .ok l=>.ok (t::l)
     | .error e=>.error e
  else .ok [⟨0,s.size,empty⟩]
abbrev R:=Except (Nat × Nat)
abbrev Var:=ByteArray × Nat
abbrev wMap:ByteArray:=⟨#[109,97,112]⟩
abbrev wCombine:ByteArray:=⟨#[99,111,109,98,105,110,101]⟩
abbrev wReduce:ByteArray:=⟨#[114,101,100,117,99,101]⟩
abbrev wPart:ByteArray:=⟨#[112,97,114,116]⟩
abbrev wEmit:ByteArray:=⟨#[101,109,105,116]⟩
abbrev wLet:ByteArray:=⟨#[108,101,116]⟩
abbrev wIf:ByteArray:=⟨#[105,102]⟩
abbrev wElse:ByteArray:=⟨#[101,108,115,101]⟩
abbrev wEach:ByteArray:=⟨#[101,97,99,104]⟩
abbrev wIn:ByteArray:=⟨#[105,110]⟩
abbrev wBy:ByteArray:=⟨#[98,121]⟩
abbrev wFor:ByteArray:=⟨#[102,111,114]⟩
abbrev wKey:ByteArray:=⟨#[107,101,121]⟩
abbrev wValue:ByteArray:=⟨#[118,97,108,117,101]⟩
abbrev wValues:ByteArray:=⟨#[118,97,108,117,101,115]⟩
abbrev wParts:ByteArray:=⟨#[112,97,114,116,115]⟩
abbrev wNumber:ByteArray:=⟨#[110,117,109,98,101,114]⟩
abbrev wString:ByteArray:=⟨#[115,116,114,105,110,103]⟩
abbrev wVar:ByteArray:=⟨#[118,97,114]⟩
def words:List ByteArray:=[wMap,wCombine,wReduce,wPart,wEmit,wLet,wIf,wElse,wEach,wIn,wBy,wFor]
structure Sig where
 name:ByteArray
 args:ByteArray
 ans:ByteArray
abbrev kN:Nat:=110
abbrev kT:Nat:=116
abbrev kL:Nat:=108
def sigs:List Sig:=[
 ⟨⟨#[97,100,100]⟩,⟨#[110,110]⟩,⟨#[110]⟩⟩,
 ⟨⟨#[115,117,98]⟩,⟨#[110,110]⟩,⟨#[110]⟩⟩,
 ⟨⟨#[109,117,108]⟩,⟨#[110,110]⟩,⟨#[110]⟩⟩,
 ⟨⟨#[100,105,118]⟩,⟨#[110,110]⟩,⟨#[110]⟩⟩,
 ⟨⟨#[108,101,110]⟩,⟨#[116]⟩,⟨#[110]⟩⟩,
 ⟨⟨#[110,117,109]⟩,⟨#[116]⟩,⟨#[110]⟩⟩,
 ⟨⟨#[116,101,120,116]⟩,⟨#[110]⟩,⟨#[116]⟩⟩,
 ⟨⟨#[99,97,116]⟩,⟨#[116,116]⟩,⟨#[116]⟩⟩,
 ⟨⟨#[99,117,116]⟩,⟨#[116,110,110]⟩,⟨#[116]⟩⟩,
 ⟨⟨#[117,112,112,101,114]⟩,⟨#[116]⟩,⟨#[116]⟩⟩,
 ⟨⟨#[108,111,119,101,114]⟩,⟨#[116]⟩,⟨#[116]⟩⟩,
 ⟨⟨#[101,113]⟩,⟨#[116,116]⟩,⟨#[110]⟩⟩,
 ⟨⟨#[108,101,115,115]⟩,⟨#[116,116]⟩,⟨#[110]⟩⟩,
 ⟨⟨#[108,116]⟩,⟨#[110,110]⟩,⟨#[110]⟩⟩,
 ⟨⟨#[110,111,116]⟩,⟨#[110]⟩,⟨#[110]⟩⟩,
 ⟨⟨#[97,110,100]⟩,⟨#[110,110]⟩,⟨#[110]⟩⟩,
 ⟨⟨#[111,114]⟩,⟨#[110,110]⟩,⟨#[110]⟩⟩,
 ⟨⟨#[115,117,109]⟩,⟨#[108]⟩,⟨#[110]⟩⟩,
 ⟨⟨#[99,111,117,110,116]⟩,⟨#[108]⟩,⟨#[110]⟩⟩,
 ⟨⟨#[102,105,114,115,116]⟩,⟨#[108]⟩,⟨#[116]⟩⟩,
 ⟨⟨#[108,97,115,116]⟩,⟨#[108]⟩,⟨#[116]⟩⟩,
 ⟨⟨#[106,111,105,110]⟩,⟨#[108,116]⟩,⟨#[116]⟩⟩,
 ⟨⟨#[109,97,120]⟩,⟨#[108]⟩,⟨#[110]⟩⟩,
 ⟨⟨#[109,105,110]⟩,⟨#[108]⟩,⟨#[110]⟩⟩]
def findS (f:ByteArray) (l:List Sig):Option Sig:=l.find? fun s=>eqT s.name f
def isT (ts:List Tok) (c:Nat) (x:ByteArray):Bool:=match ts with
 | t::_=>t.cls == c && eqT t.text x
 | []=>false
def headAt:List Tok→Nat
 | t::_=>t.at_
 | []=>0
def want (c:Nat) (x:ByteArray) (ts:List Tok):R (List Tok):=if isT ts c x then .ok ts.tail else .error (161,headAt ts)
def isWord (t:ByteArray):Bool:=words.any fun w=>eqT w t
def fresh (ts:List Tok):R (Tok × List Tok):=match ts with
 | t::r=>if t.cls != 1 || isWord t.text then .error (161,t.at_) else .ok (t,r)
 | []=>.error (0,0)
def kindOf (vs:List Var) (x:ByteArray):Option Nat:=(vs.find? fun v=>eqT v.1 x).map (·.2)
def num (t:ByteArray):Nat:=t.data.toList.foldl (fun n c=>10 * n + (c.toNat - 48)) 0
abbrev mLp:ByteArray:=⟨#[40]⟩
abbrev mRp:ByteArray:=⟨#[41]⟩
abbrev mLb:ByteArray:=⟨#[123]⟩
abbrev mRb:ByteArray:=⟨#[125]⟩
abbrev mComma:ByteArray:=⟨#[44]⟩
abbrev mSemi:ByteArray:=⟨#[59]⟩
abbrev mEq:ByteArray:=⟨#[61]⟩
def ofK (rd:List Tok→R ((Expr × Nat) × List Tok)) (k:Nat) (ts:List Tok):R (Expr × List Tok) :=
 match rd ts with
 | .ok ((e,k'),r)=>if k' == k then .ok (e,r) else .error (163,headAt ts)
 | .error f=>.error f
def argsF (rd:List Tok→R ((Expr × Nat) × List Tok)):List UInt8→Bool→List Tok→R (List Expr × List Tok)
 | [],_,ts=>.ok ([],ts)
 | k::ks,first,ts =>
  match (if first then Except.ok ts else want 4 mComma ts) with
  | .error f=>.error f
  | .ok ts=>match ofK rd k.toNat ts with
   | .error f=>.error f
   | .ok (e,ts)=>match argsF rd ks false ts with
    | .error f=>.error f
    | .ok (es,ts)=>.ok (e::es,ts)
def callF (rd:List Tok→R ((Expr × Nat) × List Tok)) (calls:Nat) (t:Tok) (ts:List Tok):R ((Expr × Nat) × List Tok) :=
 if 8 ≤ calls then .error (164,headAt ts)
 else match findS t.text sigs with
  | none=>.error (162,t.at_)
  | some s=>match argsF rd s.args.data.toList true ts.tail with
   | .error f=>.error f
   | .ok (es,ts)=>match want 4 mRp ts with
    | .error f=>.error f
    | .ok ts=>.ok ((.mk t.text t.at_ 0 empty es,(s.ans[0]!).toNat),ts)
def exprF:Nat→Nat→List Var→List Tok→R ((Expr × Nat) × List Tok)
 | 0,_,_,_=>.error (0,0)
 | n + 1,calls,vs,ts=>match ts with
  | []=>.error (0,0)
  | t::r =>
   if t.cls == 2 then .ok ((.mk wNumber t.at_ (num t.text) empty [],kN),r)
   else if t.cls == 3 then .ok ((.mk wString t.at_ 0 t.text [],kT),r)
   else match fresh (t::r) with
    | .error f=>.error f
    | .ok (t,r) =>
     if isT r 4 mLp then callF (exprF n (calls + 1) vs) calls t r
     else match kindOf vs t.text with
      | some k=>.ok ((.mk wVar t.at_ 0 t.text [],k),r)
      | none=>.error (162,t.at_)
def expr0 (vs:List Var) (ts:List Tok):R ((Expr × Nat) × List Tok):=exprF ts.length 0 vs ts
def unboundF (vs:List Var) (ts:List Tok):R (ByteArray × List Tok):=match fresh ts with
 | .error f=>.error f
 | .ok (t,r)=>if (kindOf vs t.text).isSome then .error (162,t.at_) else .ok (t.text,r)
def blockG (rd:Nat→Nat→List Var→List Tok→R (List Stmt × List Tok)) (b l:Nat) (loop:Bool) (vs:List Var) (ts:List Tok):R (List Stmt × List Tok) :=
 if isT ts 4 mLb && (8 ≤ b || (loop && 2 ≤ l)) then .error (164,headAt ts)
 else match want 4 mLb ts with
  | .error f=>.error f
  | .ok ts=>rd (b + 1) (if loop then l + 1 else l) vs ts
def emitF (vs:List Var) (ts:List Tok):R (Stmt × List Tok) :=
 match ofK (expr0 vs) kT ts with
 | .error f=>.error f
 | .ok (a,ts)=>match want 4 mComma ts with
  | .error f=>.error f
  | .ok ts=>match ofK (expr0 vs) kT ts with
   | .error f=>.error f
   | .ok (b,ts)=>match want 4 mSemi ts with
    | .error f=>.error f
    | .ok ts=>.ok (.mk wEmit empty a b [] [],ts)
def letF (vs:List Var) (ts:List Tok):R ((Stmt × Var) × List Tok) :=
 match unboundF vs ts with
 | .error f=>.error f
 | .ok (x,ts)=>match want 4 mEq ts with
  | .error f=>.error f
  | .ok ts=>match expr0 vs ts with
   | .error f=>.error f
   | .ok ((e,k),ts)=>match want 4 mSemi ts with
    | .error f=>.error f
    | .ok ts=>.ok ((.mk wLet x e .zero [] [],(x,k)),ts)
abbrev BlockRd:=Bool→List Var→List Tok→R (List Stmt × List Tok)
def ifF (blk:BlockRd) (vs:List Var) (ts:List Tok):R (Stmt × List Tok) :=
 match ofK (expr0 vs) kN ts with
 | .error f=>.error f
 | .ok (a,ts)=>match blk false vs ts with
  | .error f=>.error f
  | .ok (b,ts) =>
   if isT ts 1 wElse then match blk false vs ts.tail with
    | .error f=>.error f
    | .ok (c,ts)=>.ok (.mk wIf empty a .zero b c,ts)
   else .ok (.mk wIf empty a .zero b [],ts)
def forF (blk:BlockRd) (vs:List Var) (ts:List Tok):R (Stmt × List Tok) :=
 match unboundF vs ts with
 | .error f=>.error f
 | .ok (x,ts)=>match want 1 wIn ts with
  | .error f=>.error f
  | .ok ts=>match ofK (expr0 vs) kL ts with
   | .error f=>.error f
   | .ok (a,ts)=>match blk true (vs++[(x,kT)]) ts with
    | .error f=>.error f
    | .ok (b,ts)=>.ok (.mk wFor x a .zero b [],ts)
def eachF (blk:BlockRd) (vs:List Var) (ts:List Tok):R (Stmt × List Tok) :=
 match unboundF vs ts with
 | .error f=>.error f
 | .ok (x,ts)=>match want 1 wIn ts with
  | .error f=>.error f
  | .ok ts=>match ofK (expr0 vs) kT ts with
   | .error f=>.error f
   | .ok (a,ts)=>match want 1 wBy ts with
    | .error f=>.error f
    | .ok ts=>match ofK (expr0 vs) kT ts with
     | .error f=>.error f
     | .ok (b,ts)=>match blk true (vs++[(x,kT)]) ts with
      | .error f=>.error f
      | .ok (c,ts)=>.ok (.mk wEach x a b c [],ts)
def stmtF (blk:BlockRd) (vs:List Var) (ts:List Tok):R ((Stmt × List Var) × List Tok):=match ts with
 | []=>.error (0,0)
 | t::r =>
  if t.cls != 1 then .error (161,t.at_)
  else if eqT t.text wEmit then (emitF vs r).map fun p=>((p.1,vs),p.2)
  else if eqT t.text wLet then (letF vs r).map fun p=>((p.1.1,vs++[p.1.2]),p.2)
  else if eqT t.text wIf then (ifF blk vs r).map fun p=>((p.1,vs),p.2)
  else if eqT t.text wEach then (eachF blk vs r).map fun p=>((p.1,vs),p.2)
  else if eqT t.text wFor then (forF blk vs r).map fun p=>((p.1,vs),p.2)
  else .error (161,t.at_)
def stmtsF:Nat→Nat→Nat→List Var→List Tok→R (List Stmt × List Tok)
 | 0,_,_,_,_=>.error (0,0)
 | n + 1,b,l,vs,ts =>
  if isT ts 4 mRb then .ok ([],ts.tail)
  else match stmtF (blockG (stmtsF n) b l) vs ts with
   | .error f=>.error f
   | .ok ((s,vs),ts)=>match stmtsF n b l vs ts with
    | .error f=>.error f
    | .ok (ss,ts)=>.ok (s::ss,ts)
def block0 (vs:List Var) (ts:List Tok):R (List Stmt × List Tok):=blockG (stmtsF ts.length) 0 0 false vs ts
def manyV:List Var:=[(wKey,kT),(wValues,kL)]
def partE (p:Prog) (ts:List Tok):R (Prog × List Tok) :=
 if isT ts 1 wPart then match ofK (expr0 [(wKey,kT),(wParts,kN)]) kN ts.tail with
  | .error f=>.error f
  | .ok (e,ts)=>match want 4 mSemi ts with
   | .error f=>.error f
   | .ok ts=>.ok ({ p with parts:=true,part:=e },ts)
 else .ok (p,ts)
def partF (p:Prog) (ts:List Tok):R Prog :=
 match partE p ts with
 | .error f=>.error f
 | .ok (p,ts)=>match want 0 empty ts with
  | .error f=>.error f
  | .ok _=>.ok p
def reduceF (p:Prog) (ts:List Tok):R Prog :=
 match want 1 wReduce ts with
 | .error f=>.error f
 | .ok ts=>match block0 manyV ts with
  | .error f=>.error f
  | .ok (l,ts)=>partF { p with reduce:=l } ts
def programF (ts:List Tok):R Prog :=
 match want 1 wMap ts with
 | .error f=>.error f
 | .ok ts=>match block0 [(wKey,kT),(wValue,kT)] ts with
  | .error f=>.error f
  | .ok (m,ts) =>
   if isT ts 1 wCombine then match block0 manyV ts.tail with
    | .error f=>.error f
    | .ok (c,ts)=>reduceF ⟨m,c,[],true,false,.zero⟩ ts
   else reduceF ⟨m,[],[],false,false,.zero⟩ ts
def parseF (s:ByteArray):R Prog :=
 if 4096 < s.size then .error (1,0)
 else match scanF s (s.size + 1) 0 with
  | .error i=>.error (160,i)
  | .ok ts=>programF ts
end Go.Lang
end
section
namespace Go.Lang
structure V where
 n:Int:=0
 t:ByteArray:=empty
 l:List ByteArray:=[]
abbrev Env:=List (ByteArray × V)
def maxNum:Int:=1099511627776
def boundV (n:Int):Int:=min (max n (-maxNum)) maxNum
def cellV (s:ByteArray):ByteArray:=s.extract 0 (min s.size 4096)
def bitV (b:Bool):Int:=if b then 1 else 0
def getV (e:Env) (x:ByteArray):V:=match e.find? fun p=>eqT p.1 x with
 | some p=>p.2
 | none=>{}
def productV (a b:Int):Int:=boundV (a * b)
def digitsV (l:List UInt8):Nat:=l.foldl (fun n c=>n * 10 + (c.toNat - 48)) 0
def parseAbs (l:List UInt8):Int :=
 let d:=l.dropWhile (· == 48)
 if d.length < 18 then boundV (digitsV d) else maxNum
def parseV (s:ByteArray):Int :=
 let l:=s.data.toList
 let m:=l.head? == some 45
 let d:=if m then l.drop 1 else l
 if d.isEmpty || !d.all digit then 0 else if m then -parseAbs d else parseAbs d
def foldV (f:Int→Int→Int):List ByteArray→V
 | []=>{}
 | s::l=>{ n:=l.foldl (fun n x=>boundV (f n (parseV x))) (parseV s) }
def joinV (b:ByteArray):List ByteArray→ByteArray→Bool→ByteArray
 | [],o,_=>cellV o
 | s::l,o,first =>
  let o:=o++(if first then empty else cellV b)++cellV s
  if 4096 ≤ o.size then cellV o else joinV b l o false
def lettersV (s:ByteArray) (from_ to_:UInt8):ByteArray:=⟨s.data.map fun c=>if from_ ≤ c && c < from_ + 26 then c - from_ + to_ else c⟩
def ltV:List UInt8→List UInt8→Bool
 | _,[]=>false
 | [],_::_=>true
 | a::l,b::m=>a < b || (a == b && ltV l m)
def o_number:ByteArray:=⟨#[110,117,109,98,101,114]⟩
def o_string:ByteArray:=⟨#[115,116,114,105,110,103]⟩
def o_var:ByteArray:=⟨#[118,97,114]⟩
def o_add:ByteArray:=⟨#[97,100,100]⟩
def o_sub:ByteArray:=⟨#[115,117,98]⟩
def o_mul:ByteArray:=⟨#[109,117,108]⟩
def o_div:ByteArray:=⟨#[100,105,118]⟩
def o_lt:ByteArray:=⟨#[108,116]⟩
def o_not:ByteArray:=⟨#[110,111,116]⟩
def o_and:ByteArray:=⟨#[97,110,100]⟩
def o_or:ByteArray:=⟨#[111,114]⟩
def o_sum:ByteArray:=⟨#[115,117,109]⟩
def o_max:ByteArray:=⟨#[109,97,120]⟩
def o_min:ByteArray:=⟨#[109,105,110]⟩
def o_count:ByteArray:=⟨#[99,111,117,110,116]⟩
def o_first:ByteArray:=⟨#[102,105,114,115,116]⟩
def o_last:ByteArray:=⟨#[108,97,115,116]⟩
def o_join:ByteArray:=⟨#[106,111,105,110]⟩
def o_len:ByteArray:=⟨#[108,101,110]⟩
def o_num:ByteArray:=⟨#[110,117,109]⟩
def o_text:ByteArray:=⟨#[116,101,120,116]⟩
def o_cat:ByteArray:=⟨#[99,97,116]⟩
def o_cut:ByteArray:=⟨#[99,117,116]⟩
def o_upper:ByteArray:=⟨#[117,112,112,101,114]⟩
def o_lower:ByteArray:=⟨#[108,111,119,101,114]⟩
def o_eq:ByteArray:=⟨#[101,113]⟩
def o_less:ByteArray:=⟨#[108,101,115,115]⟩
def o_emit:ByteArray:=⟨#[101,109,105,116]⟩
def o_let:ByteArray:=⟨#[108,101,116]⟩
def o_if:ByteArray:=⟨#[105,102]⟩
def o_each:ByteArray:=⟨#[101,97,99,104]⟩
def o_for:ByteArray:=⟨#[102,111,114]⟩
def callV (itoa:Int→ByteArray) (op:ByteArray) (a b c:V):V :=
 if eqT op o_add then { n:=boundV (a.n + b.n) }
 else if eqT op o_sub then { n:=boundV (a.n - b.n) }
 else if eqT op o_mul then { n:=productV a.n b.n }
 else if eqT op o_div then (if b.n=0 then {} else { n:=a.n.tdiv b.n })
 else if eqT op o_lt then { n:=bitV (decide (a.n < b.n)) }
 else if eqT op o_not then { n:=bitV (a.n == 0) }
 else if eqT op o_and then { n:=bitV (a.n != 0 && b.n != 0) }
 else if eqT op o_or then { n:=bitV (a.n != 0 || b.n != 0) }
 else if eqT op o_sum then foldV (· + ·) a.l
 else if eqT op o_max then foldV max a.l
 else if eqT op o_min then foldV min a.l
 else if eqT op o_count then { n:=boundV a.l.length }
 else if eqT op o_first then (match a.l.head? with | some s=>{ t:=cellV s } | none=>{})
 else if eqT op o_last then (match a.l.getLast? with | some s=>{ t:=cellV s } | none=>{})
 else if eqT op o_join then { t:=joinV b.t a.l empty true }
 else if eqT op o_len then { n:=boundV a.t.size }
 else if eqT op o_num then { n:=parseV a.t }
 else if eqT op o_text then { t:=itoa a.n }
 else if eqT op o_cat then { t:=cellV (cellV a.t++cellV b.t) }
 else if eqT op o_cut then (let f:=min (max b.n 0) a.t.size;let k:=min (max c.n 0) (a.t.size - f);{ t:=cellV (a.t.extract f.toNat (f.toNat + k.toNat)) })
 else if eqT op o_upper then { t:=lettersV (cellV a.t) 97 65 }
 else if eqT op o_lower then { t:=lettersV (cellV a.t) 65 97 }
 else if eqT op o_eq then { n:=bitV (eqT a.t b.t) }
 else if eqT op o_less then { n:=bitV (ltV a.t.data.toList b.t.data.toList) }
 else {}
mutual
def exprV (itoa:Int→ByteArray) (e:Env):Expr→V
 | .mk op _ num text args =>
  if eqT op o_number then { n:=num } else if eqT op o_string then { t:=text } else if eqT op o_var then getV e text
  else
   let l:=argsV itoa e args
   callV itoa op (l.getD 0 {}) (l.getD 1 {}) (l.getD 2 {})
def argsV (itoa:Int→ByteArray) (e:Env):List Expr→List V
 | []=>[]
 | x::l=>exprV itoa e x::argsV itoa e l
end
def indexV (s b:List UInt8):Option Nat:=(List.range (s.length + 1)).find? fun i=>b.isPrefixOf (s.drop i)
def piecesV (b:List UInt8):Nat→List UInt8→List (List UInt8)
 | 0,_=>[]
 | k + 1,s=>match if b.isEmpty then none else indexV s b with
  | none=>[s]
  | some i=>s.take i::piecesV b k (s.drop (i + b.length))
abbrev Out:=List (ByteArray × ByteArray)
mutual
/-- what a statement binds and emits -/
def stmtV (itoa:Int→ByteArray):Stmt→Env→Out→Env × Out
 | .mk op name a b body els,e,o =>
  let v:=exprV itoa e a
  if eqT op o_emit then (e,if o.length < 1024 then o++[(v.t,(exprV itoa e b).t)] else o)
  else if eqT op o_let then (e++[(name,v)],o)
  else if eqT op o_if then (e,if v.n != 0 then blockV itoa body e o else blockV itoa els e o)
  else if eqT op o_each then
   (e,(piecesV (exprV itoa e b).t.data.toList 256 v.t.data.toList).foldl (fun o p=>blockV itoa body (e++[(name,{ t:=⟨p.toArray⟩ })]) o) o)
  else if eqT op o_for then (e,(v.l.take 256).foldl (fun o p=>blockV itoa body (e++[(name,{ t:=p })]) o) o)
  else (e,o)
/-- what a block emits: what it binds is gone behind it -/
def blockV (itoa:Int→ByteArray):List Stmt→Env→Out→Out
 | [],_,o=>o
 | s::l,e,o=>blockV itoa l (stmtV itoa s e o).1 (stmtV itoa s e o).2
end
def n_key:ByteArray:=⟨#[107,101,121]⟩
def n_value:ByteArray:=⟨#[118,97,108,117,101]⟩
def mapV (itoa:Int→ByteArray) (p:Prog) (k v:ByteArray):Out:=blockV itoa p.map [(n_key,{ t:=k }),(n_value,{ t:=v })] []
end Go.Lang
end
