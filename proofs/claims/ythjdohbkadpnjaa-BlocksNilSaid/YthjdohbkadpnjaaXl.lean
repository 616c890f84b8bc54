/-
  PRINTED BY xgen.py (this session's own): what must hold ahead of functions.
-/
import Derived.Test.YthjdohbkadpnjaaAbC
import Derived.Test.YthjdohbkadpnjaaProg
import Derived.KernelRfl
namespace Go.Proofs.Ythjdohbkadpnjaa.X
open Go.Ab
set_option linter.unusedVariables false
set_option maxRecDepth 100000
-- 3 mahout/mahoutlaw15.BlocksAnswers
noncomputable def code3 : Code := match Try.f3.body with | some c => c | none => .skip
noncomputable def res3 : List ResultVar := Try.f3.results.toList
def L3 : Nat → Option (List Nat) := fun r => if r = 10 then some [5, 7, 8, 9, 10, 11, 12, 13, 14] else if r = 22 then some [5, 10, 15, 16, 17] else if r = 27 then some [5, 10, 18] else none
noncomputable def H3_10 (t5 t7 t8 t9 t10 t11 t12 t13 t14 : Value) (h : AH) (Q : Res → AH → Prop) : Prop := HL Try.prog (cAt code3 [.r, .r, .r, .r, .r, .r, .r, .r, .l, .r, .i, .i]) (mkA 235 [(5, t5), (7, t7), (8, t8), (9, t9), (10, t10), (11, t11), (12, t12), (13, t13), (14, t14)]) h (ctxAt Try.prog L3 code3 [.r, .r, .r, .r, .r, .r, .r, .r, .l, .r, .i] (retK Try.prog res3 Q))
noncomputable def H3_22 (t5 t10 t15 t16 t17 : Value) (h : AH) (Q : Res → AH → Prop) : Prop := HL Try.prog (cAt code3 [.r, .r, .r, .r, .r, .r, .r, .r, .r, .r, .r, .r, .r, .l, .r, .i, .i]) (mkA 235 [(5, t5), (10, t10), (15, t15), (16, t16), (17, t17)]) h (ctxAt Try.prog L3 code3 [.r, .r, .r, .r, .r, .r, .r, .r, .r, .r, .r, .r, .r, .l, .r, .i] (retK Try.prog res3 Q))
noncomputable def H3_27 (t5 t10 t18 : Value) (h : AH) (Q : Res → AH → Prop) : Prop := HL Try.prog (cAt code3 [.r, .r, .r, .r, .r, .r, .r, .r, .r, .r, .r, .r, .r, .r, .l, .r, .i, .i]) (mkA 235 [(5, t5), (10, t10), (18, t18)]) h (ctxAt Try.prog L3 code3 [.r, .r, .r, .r, .r, .r, .r, .r, .r, .r, .r, .r, .r, .r, .l, .r, .i] (retK Try.prog res3 Q))
noncomputable def X3_27 (t5 t10 t18 : Value) (h : AH) (Q : Res → AH → Prop) : Prop :=
  let t219 : Value := t18
  let t220 : Value := t10
  bq (lenL t220) fun t221 =>
  bq (binV Try.prog .lss 3 (.tmp 219) (.tmp 221) t219 t221 h) fun t222 =>
  condP (some t222)
  (let t225 : Value := t10
  let t226 : Value := t18
  bq (ia 3 t225 t226) fun t227 =>
  bq (ldN 3 h t227) fun t228 =>
  bq (fa 8 1 t5) fun t229 =>
  bq (ld1 h t229) fun t230 =>
  let t231 : Value := t18
  bq (ia 3 t230 t231) fun t232 =>
  bq (ldN 3 h t232) fun t233 =>
  bq (binV Try.prog .neq 25 (.tmp 228) (.tmp 233) t228 t233 h) fun t234 =>
  condP (some t234)
  (let t6 : Value := (Value.bool false)
  Q (.ret t6) h)
  (let t223 : Value := t18
  bq (binV Try.prog .add 3 (.tmp 223) (.const (Value.int .i64 1)) t223 (Value.int .i64 1) h) fun t224 =>
  let t18 : Value := t224
  H3_27 t5 t10 t18 h Q))
  (let t6 : Value := (Value.bool true)
  Q (.ret t6) h)
theorem X3_27_eq (t5 t10 t18 : Value) (h : AH) (Q : Res → AH → Prop) : X3_27 t5 t10 t18 h Q = wpC Try.prog L3 (cAt code3 [.r, .r, .r, .r, .r, .r, .r, .r, .r, .r, .r, .r, .r, .r, .l, .r, .i, .i]) (mkA 235 [(5, t5), (10, t10), (18, t18)]) h (ctxAt Try.prog L3 code3 [.r, .r, .r, .r, .r, .r, .r, .r, .r, .r, .r, .r, .r, .r, .l, .r, .i, .i] (retK Try.prog res3 Q)) := by kernel_rfl
theorem X3_27_ok {t5 t10 t18 : Value} {h : AH} {Q : Res → AH → Prop} (H : X3_27 t5 t10 t18 h Q) : H3_27 t5 t10 t18 h Q := HL.step (L := L3) ((X3_27_eq t5 t10 t18 h Q).mp H)
noncomputable def X3_22 (t5 t10 t15 t16 t17 : Value) (h : AH) (Q : Res → AH → Prop) : Prop :=
  let t163 : Value := t17
  let t164 : Value := t15
  bq (lenL t164) fun t165 =>
  bq (binV Try.prog .lss 3 (.tmp 163) (.tmp 165) t163 t165 h) fun t166 =>
  condP (some t166)
  (let t169 : Value := t15
  let t170 : Value := t17
  bq (ia 6 t169 t170) fun t171 =>
  bq (fa 0 1 t171) fun t172 =>
  bq (ld1 h t172) fun t173 =>
  let t174 : Value := t16
  let t175 : Value := t17
  bq (ia 6 t174 t175) fun t176 =>
  bq (fa 0 1 t176) fun t177 =>
  bq (ld1 h t177) fun t178 =>
  bq (binV Try.prog .neq 3 (.tmp 173) (.tmp 178) t173 t178 h) fun t179 =>
  let t180 : Value := t179
  guardQ t180 false h (fun k => k t15 h) fun t181 h =>
  guardQ t180 false h (fun k => k t17 h) fun t182 h =>
  guardQ t180 false h (fun k => bq (ia 6 t181 t182) fun v => k v h) fun t183 h =>
  guardQ t180 false h (fun k => bq (fa 1 3 t183) fun v => k v h) fun t184 h =>
  guardQ t180 false h (fun k => bq (ldN 3 h t184) fun v => k v h) fun t185 h =>
  guardQ t180 false h (fun k => k t16 h) fun t186 h =>
  guardQ t180 false h (fun k => k t17 h) fun t187 h =>
  guardQ t180 false h (fun k => bq (ia 6 t186 t187) fun v => k v h) fun t188 h =>
  guardQ t180 false h (fun k => bq (fa 1 3 t188) fun v => k v h) fun t189 h =>
  guardQ t180 false h (fun k => bq (ldN 3 h t189) fun v => k v h) fun t190 h =>
  guardQ t180 false h (fun k => bq (binV Try.prog .neq 48 (.tmp 185) (.tmp 190) t185 t190 h) fun v => k v h) fun t191 h =>
  bq (pickV t180 (Value.bool true) t191) fun t192 =>
  let t193 : Value := t192
  guardQ t193 false h (fun k => k t15 h) fun t194 h =>
  guardQ t193 false h (fun k => k t17 h) fun t195 h =>
  guardQ t193 false h (fun k => bq (ia 6 t194 t195) fun v => k v h) fun t196 h =>
  guardQ t193 false h (fun k => bq (fa 4 1 t196) fun v => k v h) fun t197 h =>
  guardQ t193 false h (fun k => bq (ld1 h t197) fun v => k v h) fun t198 h =>
  guardQ t193 false h (fun k => k t16 h) fun t199 h =>
  guardQ t193 false h (fun k => k t17 h) fun t200 h =>
  guardQ t193 false h (fun k => bq (ia 6 t199 t200) fun v => k v h) fun t201 h =>
  guardQ t193 false h (fun k => bq (fa 4 1 t201) fun v => k v h) fun t202 h =>
  guardQ t193 false h (fun k => bq (ld1 h t202) fun v => k v h) fun t203 h =>
  guardQ t193 false h (fun k => bq (binV Try.prog .neq 3 (.tmp 198) (.tmp 203) t198 t203 h) fun v => k v h) fun t204 h =>
  bq (pickV t193 (Value.bool true) t204) fun t205 =>
  let t206 : Value := t205
  guardQ t206 false h (fun k => k t15 h) fun t207 h =>
  guardQ t206 false h (fun k => k t17 h) fun t208 h =>
  guardQ t206 false h (fun k => bq (ia 6 t207 t208) fun v => k v h) fun t209 h =>
  guardQ t206 false h (fun k => bq (fa 5 1 t209) fun v => k v h) fun t210 h =>
  guardQ t206 false h (fun k => bq (ld1 h t210) fun v => k v h) fun t211 h =>
  guardQ t206 false h (fun k => k t16 h) fun t212 h =>
  guardQ t206 false h (fun k => k t17 h) fun t213 h =>
  guardQ t206 false h (fun k => bq (ia 6 t212 t213) fun v => k v h) fun t214 h =>
  guardQ t206 false h (fun k => bq (fa 5 1 t214) fun v => k v h) fun t215 h =>
  guardQ t206 false h (fun k => bq (ld1 h t215) fun v => k v h) fun t216 h =>
  guardQ t206 false h (fun k => bq (binV Try.prog .neq 3 (.tmp 211) (.tmp 216) t211 t216 h) fun v => k v h) fun t217 h =>
  bq (pickV t206 (Value.bool true) t217) fun t218 =>
  condP (some t218)
  (let t6 : Value := (Value.bool false)
  Q (.ret t6) h)
  (let t167 : Value := t17
  bq (binV Try.prog .add 3 (.tmp 167) (.const (Value.int .i64 1)) t167 (Value.int .i64 1) h) fun t168 =>
  let t17 : Value := t168
  H3_22 t5 t10 t15 t16 t17 h Q))
  (let t18 : Value := (Value.int .i64 0)
  H3_27 t5 t10 t18 h Q)
theorem X3_22_eq (t5 t10 t15 t16 t17 : Value) (h : AH) (Q : Res → AH → Prop) : X3_22 t5 t10 t15 t16 t17 h Q = wpC Try.prog L3 (cAt code3 [.r, .r, .r, .r, .r, .r, .r, .r, .r, .r, .r, .r, .r, .l, .r, .i, .i]) (mkA 235 [(5, t5), (10, t10), (15, t15), (16, t16), (17, t17)]) h (ctxAt Try.prog L3 code3 [.r, .r, .r, .r, .r, .r, .r, .r, .r, .r, .r, .r, .r, .l, .r, .i, .i] (retK Try.prog res3 Q)) := by kernel_rfl
theorem X3_22_ok {t5 t10 t15 t16 t17 : Value} {h : AH} {Q : Res → AH → Prop} (H : X3_22 t5 t10 t15 t16 t17 h Q) : H3_22 t5 t10 t15 t16 t17 h Q := HL.step (L := L3) ((X3_22_eq t5 t10 t15 t16 t17 h Q).mp H)
noncomputable def X3_10 (t5 t7 t8 t9 t10 t11 t12 t13 t14 : Value) (h : AH) (Q : Res → AH → Prop) : Prop :=
  let t45 : Value := t14
  bq (fa 9 1 t5) fun t46 =>
  bq (ld1 h t46) fun t47 =>
  bq (lenL t47) fun t48 =>
  bq (binV Try.prog .lss 3 (.tmp 45) (.tmp 48) t45 t48 h) fun t49 =>
  condP (some t49)
  (let t52 : Value := t12
  bq (fa 9 1 t5) fun t53 =>
  bq (ld1 h t53) fun t54 =>
  let t55 : Value := t14
  bq (ia 2 t54 t55) fun t56 =>
  bq (iaA 2 1 t56 (Value.int .i64 0)) fun t57 =>
  bq (ld1 h t57) fun t58 =>
  bq (fa 9 1 t5) fun t59 =>
  bq (ld1 h t59) fun t60 =>
  let t61 : Value := t14
  bq (ia 2 t60 t61) fun t62 =>
  bq (iaA 2 1 t62 (Value.int .i64 1)) fun t63 =>
  bq (ld1 h t63) fun t64 =>
  bq (bd #[(Value.int .i64 0), (Value.int .i64 0)] [(0, 1, t58), (1, 1, t64)]) fun t65 =>
  bq (bs 41 #[(Value.int .i64 0), (Value.int .i64 0)] 1 h [(0, 2, t65)]) fun r => (fun t66 h => 
  bq (apT 41 2 16 (some (Value.agg #[(Value.int .i64 0), (Value.int .i64 0)])) h t52 t66) fun r => (fun t67 h => 
  let t12 : Value := t67
  let t68 : Value := t13
  bq (fa 9 1 t5) fun t69 =>
  bq (ld1 h t69) fun t70 =>
  let t71 : Value := t14
  bq (ia 2 t70 t71) fun t72 =>
  bq (iaA 2 1 t72 (Value.int .i64 0)) fun t73 =>
  bq (ld1 h t73) fun t74 =>
  bq (fa 9 1 t5) fun t75 =>
  bq (ld1 h t75) fun t76 =>
  let t77 : Value := t14
  bq (ia 2 t76 t77) fun t78 =>
  bq (iaA 2 1 t78 (Value.int .i64 1)) fun t79 =>
  bq (ld1 h t79) fun t80 =>
  bq (bd #[(Value.int .i64 0), (Value.int .i64 0)] [(0, 1, t74), (1, 1, t80)]) fun t81 =>
  bq (bs 42 #[(Value.int .i64 0), (Value.int .i64 0)] 1 h [(0, 2, t81)]) fun r => (fun t82 h => 
  bq (apT 42 2 16 (some (Value.agg #[(Value.int .i64 0), (Value.int .i64 0)])) h t68 t82) fun r => (fun t83 h => 
  let t13 : Value := t83
  let t50 : Value := t14
  bq (binV Try.prog .add 3 (.tmp 50) (.const (Value.int .i64 1)) t50 (Value.int .i64 1) h) fun t51 =>
  let t14 : Value := t51
  H3_10 t5 t7 t8 t9 t10 t11 t12 t13 t14 h Q) r.1 r.2) r.1 r.2) r.1 r.2) r.1 r.2)
  ((let t84 : Value := t7
  bq (fa 0 1 t5) fun t85 => (bq (ld1 h t85) fun t86 => (exP Try.prog 11 (([] : List Value) ++ [t84, t86] ++ ([] : List Value)).toArray h fun t87 g => g = h ∧ ((let t88 : Value := t8
  bq (fa 0 1 t5) fun t89 => (bq (ld1 h t89) fun t90 => (exP Try.prog 12 (([] : List Value) ++ [t88, t90] ++ ([] : List Value)).toArray h fun t91 g => g = h ∧ (exP Try.prog 10 (([] : List Value) ++ [t87, t91] ++ ([] : List Value)).toArray h fun t92 g => g = h ∧ (bq (unV Try.prog .not t92) fun t93 => ((let t94 : Value := t93
  guardQ t94 false h (fun k => k t7 h) fun t95 h14_11 => (guardQ t94 false h14_11 (fun k => bq (fa 4 3 t5) fun v => k v h14_11) fun t96 h14_12 => (guardQ t94 false h14_12 (fun k => bq (ldN 3 h14_12 t96) fun v => k v h14_12) fun t97 h14_13 => (guardQ t94 false h14_13 (fun k => bq (fa 0 1 t5) fun v => k v h14_13) fun t98 h14_14 => (guardQ t94 false h14_14 (fun k => bq (ld1 h14_14 t98) fun v => k v h14_14) fun t99 h14_15 => (guardQ t94 false h14_15 (fun k => exP Try.prog 13 (([] : List Value) ++ [t95, t97, t99] ++ ([] : List Value)).toArray h14_15 k) fun t100 g => g = h14_15 ∧ (guardQ t94 false h14_15 (fun k => k t8 h14_15) fun t101 h14_17 => (guardQ t94 false h14_17 (fun k => bq (fa 4 3 t5) fun v => k v h14_17) fun t102 h14_18 => (guardQ t94 false h14_18 (fun k => bq (ldN 3 h14_18 t102) fun v => k v h14_18) fun t103 h14_19 => (guardQ t94 false h14_19 (fun k => bq (fa 0 1 t5) fun v => k v h14_19) fun t104 h14_20 => (guardQ t94 false h14_20 (fun k => bq (ld1 h14_20 t104) fun v => k v h14_20) fun t105 h14_21 => (guardQ t94 false h14_21 (fun k => exP Try.prog 14 (([] : List Value) ++ [t101, t103, t105] ++ ([] : List Value)).toArray h14_21 k) fun t106 g => g = h14_21 ∧ (guardQ t94 false h14_21 (fun k => exP Try.prog 10 (([] : List Value) ++ [t100, t106] ++ ([] : List Value)).toArray h14_21 k) fun t107 g => g = h14_21 ∧ (guardQ t94 false h14_21 (fun k => bq (unV Try.prog .not t107) fun v => k v h14_21) fun t108 h14_24 => (bq (pickV t94 (Value.bool true) t108) fun t109 => ((True) ∧
  (fun h => 
  condP (some t109)
  (let t6 : Value := (Value.bool false)
  Q (.ret t6) h)
  ((let t110 : Value := t7
  (let t111 : Value := t9
  bq (fa 0 1 t5) fun t112 => (bq (ld1 h t112) fun t113 => (bq (fa 1 1 t5) fun t114 => (bq (ld1 h t114) fun t115 => ((let t116 : Value := t11
  exP Try.prog 15 (([] : List Value) ++ [t110, t111, t113, t115, t116] ++ ([] : List Value)).toArray h fun t117 g => g = h ∧ ((let t118 : Value := t8
  (let t119 : Value := t9
  bq (fa 0 1 t5) fun t120 => (bq (ld1 h t120) fun t121 => (bq (fa 1 1 t5) fun t122 => (bq (ld1 h t122) fun t123 => (bq (fa 7 1 t5) fun t124 => (bq (ld1 h t124) fun t125 => (exP Try.prog 16 (([] : List Value) ++ [t118, t119, t121, t123, t125] ++ ([] : List Value)).toArray h fun t126 g => g = h ∧ (exP Try.prog 10 (([] : List Value) ++ [t117, t126] ++ ([] : List Value)).toArray h fun t127 g => g = h ∧ (bq (unV Try.prog .not t127) fun t128 => ((let t129 : Value := t128
  guardQ t129 false h (fun k => k t11 h) fun t130 h16_20 => (guardQ t129 false h16_20 (fun k => bq (fa 7 1 t5) fun v => k v h16_20) fun t131 h16_21 => (guardQ t129 false h16_21 (fun k => bq (ld1 h16_21 t131) fun v => k v h16_21) fun t132 h16_22 => (guardQ t129 false h16_22 (fun k => exP Try.prog 10 (([] : List Value) ++ [t130, t132] ++ ([] : List Value)).toArray h16_22 k) fun t133 g => g = h16_22 ∧ (guardQ t129 false h16_22 (fun k => bq (unV Try.prog .not t133) fun v => k v h16_22) fun t134 h16_24 => (bq (pickV t129 (Value.bool true) t134) fun t135 => ((True) ∧
  (fun h => 
  condP (some t135)
  (let t6 : Value := (Value.bool false)
  Q (.ret t6) h)
  ((let t136 : Value := t7
  bq (fa 0 1 t5) fun t137 => (bq (ld1 h t137) fun t138 => ((let t139 : Value := t10
  (let t140 : Value := t12
  exP Try.prog 17 (([] : List Value) ++ [t136, t138, t139, t140] ++ ([] : List Value)).toArray h fun t141 g => g = h ∧ ((let t142 : Value := t8
  bq (fa 0 1 t5) fun t143 => (bq (ld1 h t143) fun t144 => (bq (fa 8 1 t5) fun t145 => (bq (ld1 h t145) fun t146 => (exP Try.prog 19 (([] : List Value) ++ [t146] ++ ([] : List Value)).toArray h fun t147 g => g = h ∧ ((let t148 : Value := t13
  exP Try.prog 18 (([] : List Value) ++ [t142, t144, t147, t148] ++ ([] : List Value)).toArray h fun t149 g => g = h ∧ ((let t15 : Value := t141
  (let t16 : Value := t149
  (True) ∧
  (let t150 : Value := t15
  bq (lenL t150) fun t151 =>
  let t152 : Value := t16
  bq (lenL t152) fun t153 =>
  bq (binV Try.prog .neq 3 (.tmp 151) (.tmp 153) t151 t153 h) fun t154 =>
  let t155 : Value := t154
  guardQ t155 false h (fun k => k t10 h) fun t156 h =>
  guardQ t155 false h (fun k => bq (lenL t156) fun v => k v h) fun t157 h =>
  guardQ t155 false h (fun k => bq (fa 8 1 t5) fun v => k v h) fun t158 h =>
  guardQ t155 false h (fun k => bq (ld1 h t158) fun v => k v h) fun t159 h =>
  guardQ t155 false h (fun k => bq (lenL t159) fun v => k v h) fun t160 h =>
  guardQ t155 false h (fun k => bq (binV Try.prog .neq 3 (.tmp 157) (.tmp 160) t157 t160 h) fun v => k v h) fun t161 h =>
  bq (pickV t155 (Value.bool true) t161) fun t162 =>
  condP (some t162)
  (let t6 : Value := (Value.bool false)
  Q (.ret t6) h)
  (let t17 : Value := (Value.int .i64 0)
  H3_22 t5 t10 t15 t16 t17 h Q)))))))))))))))))))) h16_24)))))))))))))))))))))))))))) h14_24)))))))))))))))))))))))))))
theorem X3_10_eq (t5 t7 t8 t9 t10 t11 t12 t13 t14 : Value) (h : AH) (Q : Res → AH → Prop) : X3_10 t5 t7 t8 t9 t10 t11 t12 t13 t14 h Q = wpC Try.prog L3 (cAt code3 [.r, .r, .r, .r, .r, .r, .r, .r, .l, .r, .i, .i]) (mkA 235 [(5, t5), (7, t7), (8, t8), (9, t9), (10, t10), (11, t11), (12, t12), (13, t13), (14, t14)]) h (ctxAt Try.prog L3 code3 [.r, .r, .r, .r, .r, .r, .r, .r, .l, .r, .i, .i] (retK Try.prog res3 Q)) := by kernel_rfl
theorem X3_10_ok {t5 t7 t8 t9 t10 t11 t12 t13 t14 : Value} {h : AH} {Q : Res → AH → Prop} (H : X3_10 t5 t7 t8 t9 t10 t11 t12 t13 t14 h Q) : H3_10 t5 t7 t8 t9 t10 t11 t12 t13 t14 h Q := HL.step (L := L3) ((X3_10_eq t5 t7 t8 t9 t10 t11 t12 t13 t14 h Q).mp H)
noncomputable def X3 (t0 t1 t2 : Value) (h : AH) (Q : Res → AH → Prop) : Prop :=
  (fun t3 h => 
  (fun t5 h => 
  let t6 : Value := (Value.bool false)
  HC Try.prog 8 (([] : List Value) ++ [] ++ ([] : List Value)).toArray h (resK (fun t19 h => 
  bq (unV Try.prog .not t19) fun t20 =>
  condP (some t20)
  (let t6 : Value := (Value.bool false)
  Q (.ret t6) h)
  (bq (iaA 2 1 t3 (Value.int .i64 0)) fun t22 =>
  bq (ld1 h t22) fun t23 =>
  bq (iaA 2 1 t3 (Value.int .i64 1)) fun t24 =>
  bq (ld1 h t24) fun t25 =>
  let t26 : Value := t1
  HC Try.prog 9 (([] : List Value) ++ [t23, t25, t26] ++ ([] : List Value)).toArray h (resK (fun t27 h => 
  let t21 : Value := t27
  bq (opExtract t21 0) fun t28 =>
  bq (opExtract t21 1) fun t29 =>
  let t7 : Value := t28
  let t8 : Value := t29
  bq (fa 2 1 t5) fun t30 =>
  bq (ld1 h t30) fun t31 =>
  bq (convV Try.prog 3 37 t31 h) fun r => (fun t32 h => 
  bq (fa 3 1 t5) fun t33 =>
  bq (ld1 h t33) fun t34 =>
  bq (convV Try.prog 3 37 t34 h) fun r => (fun t35 h => 
  (if [t32, t35].all (plainN 12) then bq (flatV Try.prog (Builtin.complex_ #[37, 37] 36 [t32, t35].toArray)) fun t36 => 
  let t9 : Value := t36
  bq (bs 25 #[] 0 h []) fun r => (fun t37 h => 
  bq (fa 8 1 t5) fun t38 =>
  bq (ld1 h t38) fun t39 =>
  bq (apT 25 3 24 (some (Value.agg #[(Value.int .i64 0), (Value.int .i64 0), (Value.int .i64 0)])) h t37 t39) fun r => (fun t40 h => 
  let t10 : Value := t40
  bq (bs 3 #[] 0 h []) fun r => (fun t41 h => 
  bq (fa 7 1 t5) fun t42 =>
  bq (ld1 h t42) fun t43 =>
  bq (apT 3 1 8 (some (Value.int .i64 0)) h t41 t43) fun r => (fun t44 h => 
  let t11 : Value := t44
  let t12 : Value := (Value.slice none 0 0)
  let t13 : Value := (Value.slice none 0 0)
  let t14 : Value := (Value.int .i64 0)
  H3_10 t5 t7 t8 t9 t10 t11 t12 t13 t14 h Q) r.1 r.2) r.1 r.2) r.1 r.2) r.1 r.2 else False)) r.1 r.2) r.1 r.2) (fun v h => Q (.pan v) h)))) (fun v h => Q (.pan v) h))) (opNew h 30 t2.cells).1 (opNew h 30 t2.cells).2) (opNew h 22 t0.cells).1 (opNew h 22 t0.cells).2
theorem X3_eq (t0 t1 t2 : Value) (h : AH) (Q : Res → AH → Prop) : X3 t0 t1 t2 h Q = wpC Try.prog L3 code3 (argA [t0, t1, t2] Try.f3.ntmps) h (retK Try.prog res3 Q) := by kernel_rfl
theorem X3_body : Try.f3.body = some code3 := by kernel_rfl
theorem X3_ok {t0 t1 t2 : Value} {h : AH} {Q : Res → AH → Prop} (H : X3 t0 t1 t2 h Q) : HC Try.prog 3 [t0, t1, t2].toArray h Q := HC.body Try.func3 X3_body ((X3_eq t0 t1 t2 h Q).mp H)

-- 4 mahout/mahoutlaw15.BlocksSafe
noncomputable def code4 : Code := match Try.f4.body with | some c => c | none => .skip
noncomputable def res4 : List ResultVar := Try.f4.results.toList
def L4 : Nat → Option (List Nat) := fun r => if r = 6 then some [5, 7, 9, 10] else if r = 12 then some [5, 7, 11, 12, 13] else if r = 13 then some [5, 7, 11, 12, 13] else if r = 17 then some [5, 7, 11, 12, 13, 14, 15, 16, 17] else if r = 21 then some [5, 7, 11, 12, 13, 14, 15, 16, 18] else none
noncomputable def H4_6 (t5 t7 t9 t10 : Value) (h : AH) (Q : Res → AH → Prop) : Prop := HL Try.prog (cAt code4 [.r, .r, .r, .r, .l, .r, .i, .i]) (mkA 182 [(5, t5), (7, t7), (9, t9), (10, t10)]) h (ctxAt Try.prog L4 code4 [.r, .r, .r, .r, .l, .r, .i] (retK Try.prog res4 Q))
noncomputable def H4_12 (t5 t7 t11 t12 t13 : Value) (h : AH) (Q : Res → AH → Prop) : Prop := HL Try.prog (cAt code4 [.r, .r, .r, .r, .r, .r, .r, .l, .r, .i, .i]) (mkA 182 [(5, t5), (7, t7), (11, t11), (12, t12), (13, t13)]) h (ctxAt Try.prog L4 code4 [.r, .r, .r, .r, .r, .r, .r, .l, .r, .i] (retK Try.prog res4 Q))
noncomputable def H4_17 (t5 t7 t11 t12 t13 t14 t15 t16 t17 : Value) (h : AH) (Q : Res → AH → Prop) : Prop := HL Try.prog (cAt code4 [.r, .r, .r, .r, .r, .r, .r, .l, .r, .i, .i, .r, .l, .i, .r, .r, .l, .r, .i, .i]) (mkA 182 [(5, t5), (7, t7), (11, t11), (12, t12), (13, t13), (14, t14), (15, t15), (16, t16), (17, t17)]) h (ctxAt Try.prog L4 code4 [.r, .r, .r, .r, .r, .r, .r, .l, .r, .i, .i, .r, .l, .i, .r, .r, .l, .r, .i] (retK Try.prog res4 Q))
noncomputable def H4_21 (t5 t7 t11 t12 t13 t14 t15 t16 t18 : Value) (h : AH) (Q : Res → AH → Prop) : Prop := HL Try.prog (cAt code4 [.r, .r, .r, .r, .r, .r, .r, .l, .r, .i, .i, .r, .l, .i, .r, .r, .r, .l, .r, .i, .i]) (mkA 182 [(5, t5), (7, t7), (11, t11), (12, t12), (13, t13), (14, t14), (15, t15), (16, t16), (18, t18)]) h (ctxAt Try.prog L4 code4 [.r, .r, .r, .r, .r, .r, .r, .l, .r, .i, .i, .r, .l, .i, .r, .r, .r, .l, .r, .i] (retK Try.prog res4 Q))
noncomputable def J4_13 (t5 t7 t11 t12 t13 : Value) (h : AH) (Q : Res → AH → Prop) : Prop := wpC Try.prog L4 (cAt code4 [.r, .r, .r, .r, .r, .r, .r, .l, .r, .i, .i, .r, .r]) (mkA 182 [(5, t5), (7, t7), (11, t11), (12, t12), (13, t13)]) h (ctxAt Try.prog L4 code4 [.r, .r, .r, .r, .r, .r, .r, .l, .r, .i, .i, .r, .r] (retK Try.prog res4 Q))
noncomputable def X4_13 (t5 t7 t11 t12 t13 : Value) (h : AH) (Q : Res → AH → Prop) : Prop :=
  let t70 : Value := t13
  bq (binV Try.prog .add 3 (.tmp 70) (.const (Value.int .i64 1)) t70 (Value.int .i64 1) h) fun t71 =>
  let t13 : Value := t71
  H4_12 t5 t7 t11 t12 t13 h Q
theorem X4_13_eq (t5 t7 t11 t12 t13 : Value) (h : AH) (Q : Res → AH → Prop) : X4_13 t5 t7 t11 t12 t13 h Q = wpC Try.prog L4 (cAt code4 [.r, .r, .r, .r, .r, .r, .r, .l, .r, .i, .i, .r, .r]) (mkA 182 [(5, t5), (7, t7), (11, t11), (12, t12), (13, t13)]) h (ctxAt Try.prog L4 code4 [.r, .r, .r, .r, .r, .r, .r, .l, .r, .i, .i, .r, .r] (retK Try.prog res4 Q)) := by kernel_rfl
theorem X4_13_ok {t5 t7 t11 t12 t13 : Value} {h : AH} {Q : Res → AH → Prop} (H : X4_13 t5 t7 t11 t12 t13 h Q) : J4_13 t5 t7 t11 t12 t13 h Q := (X4_13_eq t5 t7 t11 t12 t13 h Q).mp H
noncomputable def X4_21 (t5 t7 t11 t12 t13 t14 t15 t16 t18 : Value) (h : AH) (Q : Res → AH → Prop) : Prop :=
  let t94 : Value := t18
  bq (fa 9 1 t5) fun t95 =>
  bq (ld1 h t95) fun t96 =>
  bq (lenL t96) fun t97 =>
  bq (binV Try.prog .lss 3 (.tmp 94) (.tmp 97) t94 t97 h) fun t98 =>
  condP (some t98)
  (let t101 : Value := t16
  let t102 : Value := t101
  guardQ t102 false h (fun k => bq (fa 9 1 t5) fun v => k v h) fun t103 h =>
  guardQ t102 false h (fun k => bq (ld1 h t103) fun v => k v h) fun t104 h =>
  guardQ t102 false h (fun k => k t18 h) fun t105 h =>
  guardQ t102 false h (fun k => bq (ia 2 t104 t105) fun v => k v h) fun t106 h =>
  guardQ t102 false h (fun k => bq (iaA 2 1 t106 (Value.int .i64 0)) fun v => k v h) fun t107 h =>
  guardQ t102 false h (fun k => bq (ld1 h t107) fun v => k v h) fun t108 h =>
  guardQ t102 false h (fun k => bq (fa 1 3 t14) fun v => k v h) fun t109 h =>
  guardQ t102 false h (fun k => bq (fa 0 1 t109) fun v => k v h) fun t110 h =>
  guardQ t102 false h (fun k => bq (ld1 h t110) fun v => k v h) fun t111 h =>
  guardQ t102 false h (fun k => bq (binV Try.prog .eql 3 (.tmp 108) (.tmp 111) t108 t111 h) fun v => k v h) fun t112 h =>
  guardQ t102 false h (fun k => k t112 h) fun t113 h =>
  guardQ t113 true h (fun k => bq (fa 9 1 t5) fun v => k v h) fun t114 h =>
  guardQ t113 true h (fun k => bq (ld1 h t114) fun v => k v h) fun t115 h =>
  guardQ t113 true h (fun k => k t18 h) fun t116 h =>
  guardQ t113 true h (fun k => bq (ia 2 t115 t116) fun v => k v h) fun t117 h =>
  guardQ t113 true h (fun k => bq (iaA 2 1 t117 (Value.int .i64 1)) fun v => k v h) fun t118 h =>
  guardQ t113 true h (fun k => bq (ld1 h t118) fun v => k v h) fun t119 h =>
  guardQ t113 true h (fun k => bq (fa 1 3 t14) fun v => k v h) fun t120 h =>
  guardQ t113 true h (fun k => bq (fa 1 1 t120) fun v => k v h) fun t121 h =>
  guardQ t113 true h (fun k => bq (ld1 h t121) fun v => k v h) fun t122 h =>
  guardQ t113 true h (fun k => bq (binV Try.prog .gtr 3 (.tmp 119) (.tmp 122) t119 t122 h) fun v => k v h) fun t123 h =>
  guardQ t102 false h (fun k => bq (pickV t113 t123 (Value.bool false)) fun v => k v h) fun t124 h =>
  bq (pickV t102 (Value.bool true) t124) fun t125 =>
  let t16 : Value := t125
  let t99 : Value := t18
  bq (binV Try.prog .add 3 (.tmp 99) (.const (Value.int .i64 1)) t99 (Value.int .i64 1) h) fun t100 =>
  let t18 : Value := t100
  H4_21 t5 t7 t11 t12 t13 t14 t15 t16 t18 h Q)
  ((let t126 : Value := t7
  bq (fa 1 3 t14) fun t127 => (bq (ldN 3 h t127) fun t128 => (bq (fa 0 1 t5) fun t129 => (bq (ld1 h t129) fun t130 => (exP Try.prog 13 (([] : List Value) ++ [t126, t128, t130] ++ ([] : List Value)).toArray h fun t131 g => g = h ∧ (bq (fa 4 1 t14) fun t132 => (bq (ld1 h t132) fun t133 => (exP Try.prog 20 (([] : List Value) ++ [t131, t133] ++ ([] : List Value)).toArray h fun t134 g => g = h ∧ (bq (unV Try.prog .not t134) fun t135 => ((let t136 : Value := t135
  guardQ t136 false h (fun k => k t12 h) fun t137 h24_11 => (guardQ t136 false h24_11 (fun k => bq (fa 4 1 t14) fun v => k v h24_11) fun t138 h24_12 => (guardQ t136 false h24_12 (fun k => bq (ld1 h24_12 t138) fun v => k v h24_12) fun t139 h24_13 => (guardQ t136 false h24_13 (fun k => exP Try.prog 20 (([] : List Value) ++ [t137, t139] ++ ([] : List Value)).toArray h24_13 k) fun t140 g => g = h24_13 ∧ (guardQ t136 false h24_13 (fun k => bq (unV Try.prog .not t140) fun v => k v h24_13) fun t141 h24_15 => (bq (pickV t136 (Value.bool true) t141) fun t142 => ((True) ∧
  (fun h => 
  condP (some t142)
  (let t6 : Value := (Value.bool false)
  Q (.ret t6) h)
  (bq (fa 0 1 t14) fun t143 =>
  bq (ld1 h t143) fun t144 =>
  bq (binV Try.prog .eql 3 (.tmp 144) (.const (Value.int .i64 1)) t144 (Value.int .i64 1) h) fun t146 =>
  let t145 : Value := t146
  condP (some t145)
  ((let t147 : Value := t15
  bq (unV Try.prog .not t147) fun t148 => ((let t149 : Value := t148
  guardQ t149 false h (fun k => k t12 h) fun t150 h29_3 => (guardQ t149 false h29_3 (fun k => bq (fa 5 1 t14) fun v => k v h29_3) fun t151 h29_4 => (guardQ t149 false h29_4 (fun k => bq (ld1 h29_4 t151) fun v => k v h29_4) fun t152 h29_5 => (guardQ t149 false h29_5 (fun k => exP Try.prog 20 (([] : List Value) ++ [t150, t152] ++ ([] : List Value)).toArray h29_5 k) fun t153 g => g = h29_5 ∧ (guardQ t149 false h29_5 (fun k => bq (unV Try.prog .not t153) fun v => k v h29_5) fun t154 h29_7 => (bq (pickV t149 (Value.bool true) t154) fun t155 => ((let t156 : Value := t155
  guardQ t156 false h29_7 (fun k => k t7 h29_7) fun t157 h29_10 => (guardQ t156 false h29_10 (fun k => bq (fa 1 3 t14) fun v => k v h29_10) fun t158 h29_11 => (guardQ t156 false h29_11 (fun k => bq (ldN 3 h29_11 t158) fun v => k v h29_11) fun t159 h29_12 => (guardQ t156 false h29_12 (fun k => bq (fa 0 1 t5) fun v => k v h29_12) fun t160 h29_13 => (guardQ t156 false h29_13 (fun k => bq (ld1 h29_13 t160) fun v => k v h29_13) fun t161 h29_14 => (guardQ t156 false h29_14 (fun k => exP Try.prog 13 (([] : List Value) ++ [t157, t159, t161] ++ ([] : List Value)).toArray h29_14 k) fun t162 g => g = h29_14 ∧ (guardQ t156 false h29_14 (fun k => bq (fa 5 1 t14) fun v => k v h29_14) fun t163 h29_16 => (guardQ t156 false h29_16 (fun k => bq (ld1 h29_16 t163) fun v => k v h29_16) fun t164 h29_17 => (guardQ t156 false h29_17 (fun k => exP Try.prog 20 (([] : List Value) ++ [t162, t164] ++ ([] : List Value)).toArray h29_17 k) fun t165 g => g = h29_17 ∧ (bq (pickV t156 (Value.bool true) t165) fun t166 => ((True) ∧
  (fun h => 
  condP (some t166)
  (let t6 : Value := (Value.bool false)
  Q (.ret t6) h)
  (J4_13 t5 t7 t11 t12 t13 h Q)) h29_17)))))))))))))))))))))
  (bq (binV Try.prog .eql 3 (.tmp 144) (.const (Value.int .i64 2)) t144 (Value.int .i64 2) h) fun t168 =>
  let t167 : Value := t168
  condP (some t167)
  (let t169 : Value := t15
  let t170 : Value := t169
  guardQ t170 false h (fun k => k t16 h) fun t171 h =>
  guardQ t170 false h (fun k => bq (unV Try.prog .not t171) fun v => k v h) fun t172 h =>
  bq (pickV t170 (Value.bool true) t172) fun t173 =>
  let t174 : Value := t173
  guardQ t174 false h (fun k => bq (fa 5 1 t14) fun v => k v h) fun t175 h =>
  guardQ t174 false h (fun k => bq (ld1 h t175) fun v => k v h) fun t176 h =>
  guardQ t174 false h (fun k => bq (binV Try.prog .neq 3 (.tmp 176) (.const (Value.int .i64 0)) t176 (Value.int .i64 0) h) fun v => k v h) fun t177 h =>
  bq (pickV t174 (Value.bool true) t177) fun t178 =>
  condP (some t178)
  (let t6 : Value := (Value.bool false)
  Q (.ret t6) h)
  (J4_13 t5 t7 t11 t12 t13 h Q))
  (let t6 : Value := (Value.bool false)
  Q (.ret t6) h)))) h24_15))))))))))))))))))
theorem X4_21_eq (t5 t7 t11 t12 t13 t14 t15 t16 t18 : Value) (h : AH) (Q : Res → AH → Prop) : X4_21 t5 t7 t11 t12 t13 t14 t15 t16 t18 h Q = wpC Try.prog L4 (cAt code4 [.r, .r, .r, .r, .r, .r, .r, .l, .r, .i, .i, .r, .l, .i, .r, .r, .r, .l, .r, .i, .i]) (mkA 182 [(5, t5), (7, t7), (11, t11), (12, t12), (13, t13), (14, t14), (15, t15), (16, t16), (18, t18)]) h (ctxAt Try.prog L4 code4 [.r, .r, .r, .r, .r, .r, .r, .l, .r, .i, .i, .r, .l, .i, .r, .r, .r, .l, .r, .i, .i] (retK Try.prog res4 Q)) := by kernel_rfl
theorem X4_21_ok {t5 t7 t11 t12 t13 t14 t15 t16 t18 : Value} {h : AH} {Q : Res → AH → Prop} (H : X4_21 t5 t7 t11 t12 t13 t14 t15 t16 t18 h Q) : H4_21 t5 t7 t11 t12 t13 t14 t15 t16 t18 h Q := HL.step (L := L4) ((X4_21_eq t5 t7 t11 t12 t13 t14 t15 t16 t18 h Q).mp H)
noncomputable def X4_17 (t5 t7 t11 t12 t13 t14 t15 t16 t17 : Value) (h : AH) (Q : Res → AH → Prop) : Prop :=
  let t76 : Value := t17
  bq (fa 8 1 t5) fun t77 =>
  bq (ld1 h t77) fun t78 =>
  bq (lenL t78) fun t79 =>
  bq (binV Try.prog .lss 3 (.tmp 76) (.tmp 79) t76 t79 h) fun t80 =>
  condP (some t80)
  (let t83 : Value := t15
  let t84 : Value := t83
  guardQ t84 false h (fun k => bq (fa 8 1 t5) fun v => k v h) fun t85 h =>
  guardQ t84 false h (fun k => bq (ld1 h t85) fun v => k v h) fun t86 h =>
  guardQ t84 false h (fun k => k t17 h) fun t87 h =>
  guardQ t84 false h (fun k => bq (ia 3 t86 t87) fun v => k v h) fun t88 h =>
  guardQ t84 false h (fun k => bq (ldN 3 h t88) fun v => k v h) fun t89 h =>
  guardQ t84 false h (fun k => bq (fa 1 3 t14) fun v => k v h) fun t90 h =>
  guardQ t84 false h (fun k => bq (ldN 3 h t90) fun v => k v h) fun t91 h =>
  guardQ t84 false h (fun k => bq (binV Try.prog .eql 25 (.tmp 89) (.tmp 91) t89 t91 h) fun v => k v h) fun t92 h =>
  bq (pickV t84 (Value.bool true) t92) fun t93 =>
  let t15 : Value := t93
  let t81 : Value := t17
  bq (binV Try.prog .add 3 (.tmp 81) (.const (Value.int .i64 1)) t81 (Value.int .i64 1) h) fun t82 =>
  let t17 : Value := t82
  H4_17 t5 t7 t11 t12 t13 t14 t15 t16 t17 h Q)
  (let t18 : Value := (Value.int .i64 0)
  H4_21 t5 t7 t11 t12 t13 t14 t15 t16 t18 h Q)
theorem X4_17_eq (t5 t7 t11 t12 t13 t14 t15 t16 t17 : Value) (h : AH) (Q : Res → AH → Prop) : X4_17 t5 t7 t11 t12 t13 t14 t15 t16 t17 h Q = wpC Try.prog L4 (cAt code4 [.r, .r, .r, .r, .r, .r, .r, .l, .r, .i, .i, .r, .l, .i, .r, .r, .l, .r, .i, .i]) (mkA 182 [(5, t5), (7, t7), (11, t11), (12, t12), (13, t13), (14, t14), (15, t15), (16, t16), (17, t17)]) h (ctxAt Try.prog L4 code4 [.r, .r, .r, .r, .r, .r, .r, .l, .r, .i, .i, .r, .l, .i, .r, .r, .l, .r, .i, .i] (retK Try.prog res4 Q)) := by kernel_rfl
theorem X4_17_ok {t5 t7 t11 t12 t13 t14 t15 t16 t17 : Value} {h : AH} {Q : Res → AH → Prop} (H : X4_17 t5 t7 t11 t12 t13 t14 t15 t16 t17 h Q) : H4_17 t5 t7 t11 t12 t13 t14 t15 t16 t17 h Q := HL.step (L := L4) ((X4_17_eq t5 t7 t11 t12 t13 t14 t15 t16 t17 h Q).mp H)
noncomputable def X4_12 (t5 t7 t11 t12 t13 : Value) (h : AH) (Q : Res → AH → Prop) : Prop :=
  let t66 : Value := t13
  let t67 : Value := t11
  bq (lenL t67) fun t68 =>
  bq (binV Try.prog .lss 3 (.tmp 66) (.tmp 68) t66 t68 h) fun t69 =>
  condP (some t69)
  (let t72 : Value := t11
  let t73 : Value := t13
  bq (ia 6 t72 t73) fun t74 =>
  bq (ldN 6 h t74) fun t75 =>
  (fun t14 h => 
  bq (stN 6 h t14 t75) fun h => (fun _ h => 
  let t15 : Value := (Value.bool false)
  let t16 : Value := (Value.bool false)
  let t17 : Value := (Value.int .i64 0)
  H4_17 t5 t7 t11 t12 t13 t14 t15 t16 t17 h Q) undef h) (opNew h 58 #[(Value.int .i64 0), (Value.int .i64 0), (Value.int .i64 0), (Value.int .i64 0), (Value.int .i64 0), (Value.int .i64 0)]).1 (opNew h 58 #[(Value.int .i64 0), (Value.int .i64 0), (Value.int .i64 0), (Value.int .i64 0), (Value.int .i64 0), (Value.int .i64 0)]).2)
  (let t179 : Value := t11
  bq (lenL t179) fun t180 =>
  bq (binV Try.prog .leq 3 (.tmp 180) (.const (Value.int .i64 64)) t180 (Value.int .i64 64) h) fun t181 =>
  let t6 : Value := t181
  Q (.ret t6) h)
theorem X4_12_eq (t5 t7 t11 t12 t13 : Value) (h : AH) (Q : Res → AH → Prop) : X4_12 t5 t7 t11 t12 t13 h Q = wpC Try.prog L4 (cAt code4 [.r, .r, .r, .r, .r, .r, .r, .l, .r, .i, .i]) (mkA 182 [(5, t5), (7, t7), (11, t11), (12, t12), (13, t13)]) h (ctxAt Try.prog L4 code4 [.r, .r, .r, .r, .r, .r, .r, .l, .r, .i, .i] (retK Try.prog res4 Q)) := by kernel_rfl
theorem X4_12_ok {t5 t7 t11 t12 t13 : Value} {h : AH} {Q : Res → AH → Prop} (H : X4_12 t5 t7 t11 t12 t13 h Q) : H4_12 t5 t7 t11 t12 t13 h Q := HL.step (L := L4) ((X4_12_eq t5 t7 t11 t12 t13 h Q).mp H)
noncomputable def X4_6 (t5 t7 t9 t10 : Value) (h : AH) (Q : Res → AH → Prop) : Prop :=
  let t30 : Value := t10
  bq (fa 9 1 t5) fun t31 =>
  bq (ld1 h t31) fun t32 =>
  bq (lenL t32) fun t33 =>
  bq (binV Try.prog .lss 3 (.tmp 30) (.tmp 33) t30 t33 h) fun t34 =>
  condP (some t34)
  (let t37 : Value := t9
  bq (fa 9 1 t5) fun t38 =>
  bq (ld1 h t38) fun t39 =>
  let t40 : Value := t10
  bq (ia 2 t39 t40) fun t41 =>
  bq (iaA 2 1 t41 (Value.int .i64 0)) fun t42 =>
  bq (ld1 h t42) fun t43 =>
  bq (fa 9 1 t5) fun t44 =>
  bq (ld1 h t44) fun t45 =>
  let t46 : Value := t10
  bq (ia 2 t45 t46) fun t47 =>
  bq (iaA 2 1 t47 (Value.int .i64 1)) fun t48 =>
  bq (ld1 h t48) fun t49 =>
  bq (bd #[(Value.int .i64 0), (Value.int .i64 0)] [(0, 1, t43), (1, 1, t49)]) fun t50 =>
  bq (bs 41 #[(Value.int .i64 0), (Value.int .i64 0)] 1 h [(0, 2, t50)]) fun r => (fun t51 h => 
  bq (apT 41 2 16 (some (Value.agg #[(Value.int .i64 0), (Value.int .i64 0)])) h t37 t51) fun r => (fun t52 h => 
  let t9 : Value := t52
  let t35 : Value := t10
  bq (binV Try.prog .add 3 (.tmp 35) (.const (Value.int .i64 1)) t35 (Value.int .i64 1) h) fun t36 =>
  let t10 : Value := t36
  H4_6 t5 t7 t9 t10 h Q) r.1 r.2) r.1 r.2)
  ((let t53 : Value := t7
  bq (fa 0 1 t5) fun t54 => (bq (ld1 h t54) fun t55 => (bq (bs 25 #[] 0 h []) fun r => (fun t56 h9_3 => (bq (fa 8 1 t5) fun t57 => (bq (ld1 h9_3 t57) fun t58 => (bq (apT 25 3 24 (some (Value.agg #[(Value.int .i64 0), (Value.int .i64 0), (Value.int .i64 0)])) h9_3 t56 t58) fun r => (fun t59 h9_6 => ((let t60 : Value := t9
  exP Try.prog 17 (([] : List Value) ++ [t53, t55, t59, t60] ++ ([] : List Value)).toArray h9_6 fun t61 g => g = h9_6 ∧ ((let t11 : Value := t61
  ((bq (ld1 h9_3 t54) fun v => (v = t55 ∧ h9_3 = h9_3)) ∧
  (bq (ld1 h9_6 t54) fun v => (v = t55 ∧ h9_6 = h9_6)) ∧
  (bq (ld1 h t57) fun v => (v = t58 ∧ h = h)) ∧
  True) ∧
  (fun h => 
  let t62 : Value := t7
  bq (fa 0 1 t5) fun t63 =>
  bq (ld1 h t63) fun t64 =>
  HC Try.prog 11 (([] : List Value) ++ [t62, t64] ++ ([] : List Value)).toArray h (resK (fun t65 h => 
  let t12 : Value := t65
  let t13 : Value := (Value.int .i64 0)
  H4_12 t5 t7 t11 t12 t13 h Q) (fun v h => Q (.pan v) h))) h9_6))))) r.1 r.2)))) r.1 r.2))))
theorem X4_6_eq (t5 t7 t9 t10 : Value) (h : AH) (Q : Res → AH → Prop) : X4_6 t5 t7 t9 t10 h Q = wpC Try.prog L4 (cAt code4 [.r, .r, .r, .r, .l, .r, .i, .i]) (mkA 182 [(5, t5), (7, t7), (9, t9), (10, t10)]) h (ctxAt Try.prog L4 code4 [.r, .r, .r, .r, .l, .r, .i, .i] (retK Try.prog res4 Q)) := by kernel_rfl
theorem X4_6_ok {t5 t7 t9 t10 : Value} {h : AH} {Q : Res → AH → Prop} (H : X4_6 t5 t7 t9 t10 h Q) : H4_6 t5 t7 t9 t10 h Q := HL.step (L := L4) ((X4_6_eq t5 t7 t9 t10 h Q).mp H)
noncomputable def X4 (t0 t1 t2 : Value) (h : AH) (Q : Res → AH → Prop) : Prop :=
  (fun t3 h => 
  (fun t5 h => 
  let t6 : Value := (Value.bool false)
  HC Try.prog 8 (([] : List Value) ++ [] ++ ([] : List Value)).toArray h (resK (fun t19 h => 
  bq (unV Try.prog .not t19) fun t20 =>
  condP (some t20)
  (let t6 : Value := (Value.bool false)
  Q (.ret t6) h)
  (bq (iaA 2 1 t3 (Value.int .i64 0)) fun t22 =>
  bq (ld1 h t22) fun t23 =>
  bq (iaA 2 1 t3 (Value.int .i64 1)) fun t24 =>
  bq (ld1 h t24) fun t25 =>
  let t26 : Value := t1
  HC Try.prog 9 (([] : List Value) ++ [t23, t25, t26] ++ ([] : List Value)).toArray h (resK (fun t27 h => 
  let t21 : Value := t27
  bq (opExtract t21 0) fun t28 =>
  bq (opExtract t21 1) fun t29 =>
  let t7 : Value := t28
  let t8 : Value := t29
  let t9 : Value := (Value.slice none 0 0)
  let t10 : Value := (Value.int .i64 0)
  H4_6 t5 t7 t9 t10 h Q) (fun v h => Q (.pan v) h)))) (fun v h => Q (.pan v) h))) (opNew h 30 t2.cells).1 (opNew h 30 t2.cells).2) (opNew h 22 t0.cells).1 (opNew h 22 t0.cells).2
theorem X4_eq (t0 t1 t2 : Value) (h : AH) (Q : Res → AH → Prop) : X4 t0 t1 t2 h Q = wpC Try.prog L4 code4 (argA [t0, t1, t2] Try.f4.ntmps) h (retK Try.prog res4 Q) := by kernel_rfl
theorem X4_body : Try.f4.body = some code4 := by kernel_rfl
theorem X4_ok {t0 t1 t2 : Value} {h : AH} {Q : Res → AH → Prop} (H : X4 t0 t1 t2 h Q) : HC Try.prog 4 [t0, t1, t2].toArray h Q := HC.body Try.func4 X4_body ((X4_eq t0 t1 t2 h Q).mp H)

-- 5 mahout/mahoutlaw15.BlocksNil
noncomputable def code5 : Code := match Try.f5.body with | some c => c | none => .skip
noncomputable def res5 : List ResultVar := Try.f5.results.toList
def L5 : Nat → Option (List Nat) := fun r => none
noncomputable def X5 (t0 : Value) (h : AH) (Q : Res → AH → Prop) : Prop :=
  (fun t1 h => 
  let t2 : Value := (Value.bool false)
  HC Try.prog 8 (([] : List Value) ++ [] ++ ([] : List Value)).toArray h (resK (fun t4 h => 
  bq (unV Try.prog .not t4) fun t5 =>
  condP (some t5)
  (let t2 : Value := (Value.bool false)
  Q (.ret t2) h)
  (let t3 : Value := (Value.pointer none)
  let t6 : Value := t3
  bq (fa 1 1 t1) fun t7 =>
  bq (ld1 h t7) fun t8 =>
  bq (fa 0 1 t1) fun t9 =>
  bq (ld1 h t9) fun t10 =>
  bq (fa 8 1 t1) fun t11 =>
  bq (ld1 h t11) fun t12 =>
  HC Try.prog 21 (([] : List Value) ++ [t6, t8, (Value.complex .f64 0 0), t10, t12] ++ ([] : List Value)).toArray h (resK (fun t13 h => 
  let t14 : Value := t3
  bq (fa 0 1 t1) fun t15 =>
  bq (ld1 h t15) fun t16 =>
  HC Try.prog 11 (([] : List Value) ++ [t14, t16] ++ ([] : List Value)).toArray h (resK (fun t17 h => 
  bq (lenL t17) fun t18 =>
  bq (binV Try.prog .eql 3 (.tmp 18) (.const (Value.int .i64 0)) t18 (Value.int .i64 0) h) fun t19 =>
  let t20 : Value := t19
  guardQ t20 true h (fun k => k t3 h) fun t21 h =>
  guardQ t20 true h (fun k => bq (fa 4 3 t1) fun v => k v h) fun t22 h =>
  guardQ t20 true h (fun k => bq (ldN 3 h t22) fun v => k v h) fun t23 h =>
  guardQ t20 true h (fun k => bq (fa 0 1 t1) fun v => k v h) fun t24 h =>
  guardQ t20 true h (fun k => bq (ld1 h t24) fun v => k v h) fun t25 h =>
  guardQ t20 true h (fun k => HC Try.prog 13 (([] : List Value) ++ [t21, t23, t25] ++ ([] : List Value)).toArray h (resK k (fun v h => Q (.pan v) h))) fun t26 h =>
  guardQ t20 true h (fun k => bq (lenL t26) fun v => k v h) fun t27 h =>
  guardQ t20 true h (fun k => bq (binV Try.prog .eql 3 (.tmp 27) (.const (Value.int .i64 0)) t27 (Value.int .i64 0) h) fun v => k v h) fun t28 h =>
  bq (pickV t20 t28 (Value.bool false)) fun t29 =>
  let t30 : Value := t29
  guardQ t30 true h (fun k => k t3 h) fun t31 h =>
  guardQ t30 true h (fun k => bq (fa 0 1 t1) fun v => k v h) fun t32 h =>
  guardQ t30 true h (fun k => bq (ld1 h t32) fun v => k v h) fun t33 h =>
  guardQ t30 true h (fun k => bq (fa 1 1 t1) fun v => k v h) fun t34 h =>
  guardQ t30 true h (fun k => bq (ld1 h t34) fun v => k v h) fun t35 h =>
  guardQ t30 true h (fun k => HC Try.prog 15 (([] : List Value) ++ [t31, (Value.complex .f64 0 0), t33, t35, (Value.slice none 0 0)] ++ ([] : List Value)).toArray h (resK k (fun v h => Q (.pan v) h))) fun t36 h =>
  guardQ t30 true h (fun k => bq (lenL t36) fun v => k v h) fun t37 h =>
  guardQ t30 true h (fun k => bq (binV Try.prog .eql 3 (.tmp 37) (.const (Value.int .i64 0)) t37 (Value.int .i64 0) h) fun v => k v h) fun t38 h =>
  bq (pickV t30 t38 (Value.bool false)) fun t39 =>
  let t40 : Value := t39
  guardQ t40 true h (fun k => k t3 h) fun t41 h =>
  guardQ t40 true h (fun k => bq (fa 0 1 t1) fun v => k v h) fun t42 h =>
  guardQ t40 true h (fun k => bq (ld1 h t42) fun v => k v h) fun t43 h =>
  guardQ t40 true h (fun k => bq (fa 8 1 t1) fun v => k v h) fun t44 h =>
  guardQ t40 true h (fun k => bq (ld1 h t44) fun v => k v h) fun t45 h =>
  guardQ t40 true h (fun k => HC Try.prog 17 (([] : List Value) ++ [t41, t43, t45, (Value.slice none 0 0)] ++ ([] : List Value)).toArray h (resK k (fun v h => Q (.pan v) h))) fun t46 h =>
  guardQ t40 true h (fun k => bq (lenL t46) fun v => k v h) fun t47 h =>
  guardQ t40 true h (fun k => bq (binV Try.prog .eql 3 (.tmp 47) (.const (Value.int .i64 0)) t47 (Value.int .i64 0) h) fun v => k v h) fun t48 h =>
  bq (pickV t40 t48 (Value.bool false)) fun t49 =>
  let t2 : Value := t49
  Q (.ret t2) h) (fun v h => Q (.pan v) h))) (fun v h => Q (.pan v) h)))) (fun v h => Q (.pan v) h))) (opNew h 30 t0.cells).1 (opNew h 30 t0.cells).2
theorem X5_eq (t0 : Value) (h : AH) (Q : Res → AH → Prop) : X5 t0 h Q = wpC Try.prog L5 code5 (argA [t0] Try.f5.ntmps) h (retK Try.prog res5 Q) := by kernel_rfl
theorem X5_body : Try.f5.body = some code5 := by kernel_rfl
theorem X5_ok {t0 : Value} {h : AH} {Q : Res → AH → Prop} (H : X5 t0 h Q) : HC Try.prog 5 [t0].toArray h Q := HC.body Try.func5 X5_body ((X5_eq t0 h Q).mp H)

-- 6 mahout/mahoutlaw15.BlocksPlaces
noncomputable def code6 : Code := match Try.f6.body with | some c => c | none => .skip
noncomputable def res6 : List ResultVar := Try.f6.results.toList
def L6 : Nat → Option (List Nat) := fun r => if r = 6 then some [1, 5, 7, 9] else if r = 14 then some [5, 10, 11, 12, 13] else if r = 15 then some [5, 10, 11, 12, 13] else if r = 19 then some [5, 10, 11, 12, 14] else none
noncomputable def H6_6 (t1 t5 t7 t9 : Value) (h : AH) (Q : Res → AH → Prop) : Prop := HL Try.prog (cAt code6 [.r, .r, .r, .r, .l, .r, .i, .i]) (mkA 151 [(1, t1), (5, t5), (7, t7), (9, t9)]) h (ctxAt Try.prog L6 code6 [.r, .r, .r, .r, .l, .r, .i] (retK Try.prog res6 Q))
noncomputable def H6_14 (t5 t10 t11 t12 t13 : Value) (h : AH) (Q : Res → AH → Prop) : Prop := HL Try.prog (cAt code6 [.r, .r, .r, .r, .r, .r, .r, .r, .l, .r, .i, .i]) (mkA 151 [(5, t5), (10, t10), (11, t11), (12, t12), (13, t13)]) h (ctxAt Try.prog L6 code6 [.r, .r, .r, .r, .r, .r, .r, .r, .l, .r, .i] (retK Try.prog res6 Q))
noncomputable def J6_15 (t5 t10 t11 t12 t13 : Value) (h : AH) (Q : Res → AH → Prop) : Prop := wpC Try.prog L6 (cAt code6 [.r, .r, .r, .r, .r, .r, .r, .r, .l, .r, .i, .i, .r, .r]) (mkA 151 [(5, t5), (10, t10), (11, t11), (12, t12), (13, t13)]) h (ctxAt Try.prog L6 code6 [.r, .r, .r, .r, .r, .r, .r, .r, .l, .r, .i, .i, .r, .r] (retK Try.prog res6 Q))
noncomputable def H6_19 (t5 t10 t11 t12 t14 : Value) (h : AH) (Q : Res → AH → Prop) : Prop := HL Try.prog (cAt code6 [.r, .r, .r, .r, .r, .r, .r, .r, .r, .l, .r, .i, .i]) (mkA 151 [(5, t5), (10, t10), (11, t11), (12, t12), (14, t14)]) h (ctxAt Try.prog L6 code6 [.r, .r, .r, .r, .r, .r, .r, .r, .r, .l, .r, .i] (retK Try.prog res6 Q))
noncomputable def X6_19 (t5 t10 t11 t12 t14 : Value) (h : AH) (Q : Res → AH → Prop) : Prop :=
  let t111 : Value := t14
  let t112 : Value := t10
  bq (lenL t112) fun t113 =>
  bq (binV Try.prog .lss 3 (.tmp 111) (.tmp 113) t111 t113 h) fun t114 =>
  condP (some t114)
  (let t117 : Value := t11
  let t118 : Value := t10
  let t119 : Value := t14
  bq (ia 1 t118 t119) fun t120 =>
  bq (ld1 h t120) fun t121 =>
  exP Try.prog 20 (([] : List Value) ++ [t117, t121] ++ ([] : List Value)).toArray h (fun t122 h => 
  bq (unV Try.prog .not t122) fun t123 =>
  let t124 : Value := t123
  guardQ t124 false h (fun k => bq (fa 7 1 t5) fun v => k v h) fun t125 h =>
  guardQ t124 false h (fun k => bq (ld1 h t125) fun v => k v h) fun t126 h =>
  guardQ t124 false h (fun k => k t10 h) fun t127 h =>
  guardQ t124 false h (fun k => k t14 h) fun t128 h =>
  guardQ t124 false h (fun k => bq (ia 1 t127 t128) fun v => k v h) fun t129 h =>
  guardQ t124 false h (fun k => bq (ld1 h t129) fun v => k v h) fun t130 h =>
  guardQ t124 false h (fun k => exP Try.prog 20 (([] : List Value) ++ [t126, t130] ++ ([] : List Value)).toArray h k) fun t131 h =>
  bq (pickV t124 (Value.bool true) t131) fun t132 =>
  let t133 : Value := t132
  guardQ t133 false h (fun k => k t10 h) fun t134 h =>
  guardQ t133 false h (fun k => k t14 h) fun t135 h =>
  guardQ t133 false h (fun k => bq (sliceV Try.prog h 26 t134 none (some t135)) fun v => k v h) fun t136 h =>
  guardQ t133 false h (fun k => k t10 h) fun t137 h =>
  guardQ t133 false h (fun k => k t14 h) fun t138 h =>
  guardQ t133 false h (fun k => bq (ia 1 t137 t138) fun v => k v h) fun t139 h =>
  guardQ t133 false h (fun k => bq (ld1 h t139) fun v => k v h) fun t140 h =>
  guardQ t133 false h (fun k => exP Try.prog 20 (([] : List Value) ++ [t136, t140] ++ ([] : List Value)).toArray h k) fun t141 h =>
  bq (pickV t133 (Value.bool true) t141) fun t142 =>
  condP (some t142)
  (let t6 : Value := (Value.bool false)
  Q (.ret t6) h)
  (let t115 : Value := t14
  bq (binV Try.prog .add 3 (.tmp 115) (.const (Value.int .i64 1)) t115 (Value.int .i64 1) h) fun t116 =>
  let t14 : Value := t116
  H6_19 t5 t10 t11 t12 t14 h Q)))
  (let t143 : Value := t10
  bq (lenL t143) fun t144 =>
  bq (fa 1 1 t5) fun t145 =>
  bq (ld1 h t145) fun t146 =>
  let t147 : Value := t12
  (if [t146, t147].all (plainN 12) then bq (flatV Try.prog (Builtin.min_ #[3, 3] 3 [t146, t147].toArray)) fun t148 => 
  (if [t148, (Value.int .i64 0)].all (plainN 12) then bq (flatV Try.prog (Builtin.max_ #[3, 3] 3 [t148, (Value.int .i64 0)].toArray)) fun t149 => 
  bq (binV Try.prog .eql 3 (.tmp 144) (.tmp 149) t144 t149 h) fun t150 =>
  let t6 : Value := t150
  Q (.ret t6) h else False) else False))
theorem X6_19_eq (t5 t10 t11 t12 t14 : Value) (h : AH) (Q : Res → AH → Prop) : X6_19 t5 t10 t11 t12 t14 h Q = wpC Try.prog L6 (cAt code6 [.r, .r, .r, .r, .r, .r, .r, .r, .r, .l, .r, .i, .i]) (mkA 151 [(5, t5), (10, t10), (11, t11), (12, t12), (14, t14)]) h (ctxAt Try.prog L6 code6 [.r, .r, .r, .r, .r, .r, .r, .r, .r, .l, .r, .i, .i] (retK Try.prog res6 Q)) := by kernel_rfl
theorem X6_19_ok {t5 t10 t11 t12 t14 : Value} {h : AH} {Q : Res → AH → Prop} (H : X6_19 t5 t10 t11 t12 t14 h Q) : H6_19 t5 t10 t11 t12 t14 h Q := HL.step (L := L6) ((X6_19_eq t5 t10 t11 t12 t14 h Q).mp H)
noncomputable def X6_15 (t5 t10 t11 t12 t13 : Value) (h : AH) (Q : Res → AH → Prop) : Prop :=
  let t99 : Value := t13
  bq (binV Try.prog .add 3 (.tmp 99) (.const (Value.int .i64 1)) t99 (Value.int .i64 1) h) fun t100 =>
  let t13 : Value := t100
  H6_14 t5 t10 t11 t12 t13 h Q
theorem X6_15_eq (t5 t10 t11 t12 t13 : Value) (h : AH) (Q : Res → AH → Prop) : X6_15 t5 t10 t11 t12 t13 h Q = wpC Try.prog L6 (cAt code6 [.r, .r, .r, .r, .r, .r, .r, .r, .l, .r, .i, .i, .r, .r]) (mkA 151 [(5, t5), (10, t10), (11, t11), (12, t12), (13, t13)]) h (ctxAt Try.prog L6 code6 [.r, .r, .r, .r, .r, .r, .r, .r, .l, .r, .i, .i, .r, .r] (retK Try.prog res6 Q)) := by kernel_rfl
theorem X6_15_ok {t5 t10 t11 t12 t13 : Value} {h : AH} {Q : Res → AH → Prop} (H : X6_15 t5 t10 t11 t12 t13 h Q) : J6_15 t5 t10 t11 t12 t13 h Q := (X6_15_eq t5 t10 t11 t12 t13 h Q).mp H
noncomputable def X6_14 (t5 t10 t11 t12 t13 : Value) (h : AH) (Q : Res → AH → Prop) : Prop :=
  let t95 : Value := t13
  let t96 : Value := t11
  bq (lenL t96) fun t97 =>
  bq (binV Try.prog .lss 3 (.tmp 95) (.tmp 97) t95 t97 h) fun t98 =>
  condP (some t98)
  (bq (fa 7 1 t5) fun t101 =>
  bq (ld1 h t101) fun t102 =>
  let t103 : Value := t11
  let t104 : Value := t13
  bq (ia 1 t103 t104) fun t105 =>
  bq (ld1 h t105) fun t106 =>
  exP Try.prog 20 (([] : List Value) ++ [t102, t106] ++ ([] : List Value)).toArray h (fun t107 h => 
  bq (unV Try.prog .not t107) fun t108 =>
  condP (some t108)
  (let t109 : Value := t12
  bq (binV Try.prog .add 3 (.tmp 109) (.const (Value.int .i64 1)) t109 (Value.int .i64 1) h) fun t110 =>
  let t12 : Value := t110
  J6_15 t5 t10 t11 t12 t13 h Q)
  (J6_15 t5 t10 t11 t12 t13 h Q)))
  (let t14 : Value := (Value.int .i64 0)
  H6_19 t5 t10 t11 t12 t14 h Q)
theorem X6_14_eq (t5 t10 t11 t12 t13 : Value) (h : AH) (Q : Res → AH → Prop) : X6_14 t5 t10 t11 t12 t13 h Q = wpC Try.prog L6 (cAt code6 [.r, .r, .r, .r, .r, .r, .r, .r, .l, .r, .i, .i]) (mkA 151 [(5, t5), (10, t10), (11, t11), (12, t12), (13, t13)]) h (ctxAt Try.prog L6 code6 [.r, .r, .r, .r, .r, .r, .r, .r, .l, .r, .i, .i] (retK Try.prog res6 Q)) := by kernel_rfl
theorem X6_14_ok {t5 t10 t11 t12 t13 : Value} {h : AH} {Q : Res → AH → Prop} (H : X6_14 t5 t10 t11 t12 t13 h Q) : H6_14 t5 t10 t11 t12 t13 h Q := HL.step (L := L6) ((X6_14_eq t5 t10 t11 t12 t13 h Q).mp H)
noncomputable def X6_6 (t1 t5 t7 t9 : Value) (h : AH) (Q : Res → AH → Prop) : Prop :=
  let t38 : Value := t9
  let t39 : Value := t1
  bq (lenL t39) fun t40 =>
  bq (binV Try.prog .lss 3 (.tmp 38) (.tmp 40) t38 t40 h) fun t41 =>
  condP (some t41)
  (let t44 : Value := t1
  let t45 : Value := t9
  bq (ia 5 t44 t45) fun t46 =>
  bq (fa 1 1 t46) fun t47 =>
  bq (ld1 h t47) fun t48 =>
  bq (binV Try.prog .lss 3 (.tmp 48) (.const (Value.int .i64 (-1000))) t48 (Value.int .i64 (-1000)) h) fun t49 =>
  let t50 : Value := t49
  guardQ t50 false h (fun k => k t1 h) fun t51 h =>
  guardQ t50 false h (fun k => k t9 h) fun t52 h =>
  guardQ t50 false h (fun k => bq (ia 5 t51 t52) fun v => k v h) fun t53 h =>
  guardQ t50 false h (fun k => bq (fa 1 1 t53) fun v => k v h) fun t54 h =>
  guardQ t50 false h (fun k => bq (ld1 h t54) fun v => k v h) fun t55 h =>
  guardQ t50 false h (fun k => bq (binV Try.prog .gtr 3 (.tmp 55) (.const (Value.int .i64 1000)) t55 (Value.int .i64 1000) h) fun v => k v h) fun t56 h =>
  bq (pickV t50 (Value.bool true) t56) fun t57 =>
  let t58 : Value := t57
  guardQ t58 false h (fun k => k t1 h) fun t59 h =>
  guardQ t58 false h (fun k => k t9 h) fun t60 h =>
  guardQ t58 false h (fun k => bq (ia 5 t59 t60) fun v => k v h) fun t61 h =>
  guardQ t58 false h (fun k => bq (fa 2 1 t61) fun v => k v h) fun t62 h =>
  guardQ t58 false h (fun k => bq (ld1 h t62) fun v => k v h) fun t63 h =>
  guardQ t58 false h (fun k => bq (binV Try.prog .lss 3 (.tmp 63) (.const (Value.int .i64 (-1000))) t63 (Value.int .i64 (-1000)) h) fun v => k v h) fun t64 h =>
  bq (pickV t58 (Value.bool true) t64) fun t65 =>
  let t66 : Value := t65
  guardQ t66 false h (fun k => k t1 h) fun t67 h =>
  guardQ t66 false h (fun k => k t9 h) fun t68 h =>
  guardQ t66 false h (fun k => bq (ia 5 t67 t68) fun v => k v h) fun t69 h =>
  guardQ t66 false h (fun k => bq (fa 2 1 t69) fun v => k v h) fun t70 h =>
  guardQ t66 false h (fun k => bq (ld1 h t70) fun v => k v h) fun t71 h =>
  guardQ t66 false h (fun k => bq (binV Try.prog .gtr 3 (.tmp 71) (.const (Value.int .i64 1000)) t71 (Value.int .i64 1000) h) fun v => k v h) fun t72 h =>
  bq (pickV t66 (Value.bool true) t72) fun t73 =>
  condP (some t73)
  (let t6 : Value := (Value.bool true)
  Q (.ret t6) h)
  (let t42 : Value := t9
  bq (binV Try.prog .add 3 (.tmp 42) (.const (Value.int .i64 1)) t42 (Value.int .i64 1) h) fun t43 =>
  let t9 : Value := t43
  H6_6 t1 t5 t7 t9 h Q))
  ((let t74 : Value := t7
  bq (fa 2 1 t5) fun t75 => (bq (ld1 h t75) fun t76 => (bq (convV Try.prog 3 37 t76 h) fun r => (fun t77 h10_3 => (bq (fa 3 1 t5) fun t78 => (bq (ld1 h10_3 t78) fun t79 => (bq (convV Try.prog 3 37 t79 h10_3) fun r => (fun t80 h10_6 => ((if [t77, t80].all (plainN 12) then bq (flatV Try.prog (Builtin.complex_ #[37, 37] 36 [t77, t80].toArray)) fun t81 => (bq (fa 0 1 t5) fun t82 => (bq (ld1 h10_6 t82) fun t83 => (bq (fa 1 1 t5) fun t84 => (bq (ld1 h10_6 t84) fun t85 => (bq (bs 3 #[] 0 h10_6 []) fun r => (fun t86 h10_12 => (bq (fa 7 1 t5) fun t87 => (bq (ld1 h10_12 t87) fun t88 => (bq (apT 3 1 8 (some (Value.int .i64 0)) h10_12 t86 t88) fun r => (fun t89 h10_15 => (exP Try.prog 15 (([] : List Value) ++ [t74, t81, t83, t85, t89] ++ ([] : List Value)).toArray h10_15 fun t90 g => g = h10_15 ∧ ((let t10 : Value := t90
  ((bq (ld1 h10_12 t75) fun v => (v = t76 ∧ h10_12 = h10_12)) ∧
  (bq (ld1 h10_15 t75) fun v => (v = t76 ∧ h10_15 = h10_15)) ∧
  (bq (convV Try.prog 3 37 t76 h10_12) fun r => (r.1 = t77 ∧ r.2 = h10_12)) ∧
  (bq (convV Try.prog 3 37 t76 h10_15) fun r => (r.1 = t77 ∧ r.2 = h10_15)) ∧
  (bq (ld1 h10_12 t78) fun v => (v = t79 ∧ h10_12 = h10_12)) ∧
  (bq (ld1 h10_15 t78) fun v => (v = t79 ∧ h10_15 = h10_15)) ∧
  (bq (convV Try.prog 3 37 t79 h10_12) fun r => (r.1 = t80 ∧ r.2 = h10_12)) ∧
  (bq (convV Try.prog 3 37 t79 h10_15) fun r => (r.1 = t80 ∧ r.2 = h10_15)) ∧
  ((if [t77, t80].all (plainN 12) then bq (flatV Try.prog (Builtin.complex_ #[37, 37] 36 [t77, t80].toArray)) fun v => (v = t81 ∧ h10_12 = h10_12) else False)) ∧
  ((if [t77, t80].all (plainN 12) then bq (flatV Try.prog (Builtin.complex_ #[37, 37] 36 [t77, t80].toArray)) fun v => (v = t81 ∧ h10_15 = h10_15) else False)) ∧
  (bq (ld1 h10_12 t82) fun v => (v = t83 ∧ h10_12 = h10_12)) ∧
  (bq (ld1 h10_15 t82) fun v => (v = t83 ∧ h10_15 = h10_15)) ∧
  (bq (ld1 h10_12 t84) fun v => (v = t85 ∧ h10_12 = h10_12)) ∧
  (bq (ld1 h10_15 t84) fun v => (v = t85 ∧ h10_15 = h10_15)) ∧
  (bq (ld1 h t87) fun v => (v = t88 ∧ h = h)) ∧
  True) ∧
  (fun h => 
  let t91 : Value := t7
  bq (fa 0 1 t5) fun t92 =>
  bq (ld1 h t92) fun t93 =>
  HC Try.prog 11 (([] : List Value) ++ [t91, t93] ++ ([] : List Value)).toArray h (resK (fun t94 h => 
  let t11 : Value := t94
  let t12 : Value := (Value.int .i64 0)
  let t13 : Value := (Value.int .i64 0)
  H6_14 t5 t10 t11 t12 t13 h Q) (fun v h => Q (.pan v) h))) h10_15)))) r.1 r.2)))) r.1 r.2))))) else False))) r.1 r.2)))) r.1 r.2))))
theorem X6_6_eq (t1 t5 t7 t9 : Value) (h : AH) (Q : Res → AH → Prop) : X6_6 t1 t5 t7 t9 h Q = wpC Try.prog L6 (cAt code6 [.r, .r, .r, .r, .l, .r, .i, .i]) (mkA 151 [(1, t1), (5, t5), (7, t7), (9, t9)]) h (ctxAt Try.prog L6 code6 [.r, .r, .r, .r, .l, .r, .i, .i] (retK Try.prog res6 Q)) := by kernel_rfl
theorem X6_6_ok {t1 t5 t7 t9 : Value} {h : AH} {Q : Res → AH → Prop} (H : X6_6 t1 t5 t7 t9 h Q) : H6_6 t1 t5 t7 t9 h Q := HL.step (L := L6) ((X6_6_eq t1 t5 t7 t9 h Q).mp H)
noncomputable def X6 (t0 t1 t2 : Value) (h : AH) (Q : Res → AH → Prop) : Prop :=
  (fun t3 h => 
  (fun t5 h => 
  let t6 : Value := (Value.bool false)
  HC Try.prog 8 (([] : List Value) ++ [] ++ ([] : List Value)).toArray h (resK (fun t15 h => 
  bq (unV Try.prog .not t15) fun t16 =>
  condP (some t16)
  (let t6 : Value := (Value.bool false)
  Q (.ret t6) h)
  (bq (iaA 2 1 t3 (Value.int .i64 0)) fun t18 =>
  bq (ld1 h t18) fun t19 =>
  bq (iaA 2 1 t3 (Value.int .i64 1)) fun t20 =>
  bq (ld1 h t20) fun t21 =>
  let t22 : Value := t1
  HC Try.prog 9 (([] : List Value) ++ [t19, t21, t22] ++ ([] : List Value)).toArray h (resK (fun t23 h => 
  let t17 : Value := t23
  bq (opExtract t17 0) fun t24 =>
  bq (opExtract t17 1) fun t25 =>
  let t7 : Value := t24
  let t8 : Value := t25
  bq (fa 2 1 t5) fun t26 =>
  bq (ld1 h t26) fun t27 =>
  bq (binV Try.prog .rem 3 (.tmp 27) (.const (Value.int .i64 100)) t27 (Value.int .i64 100) h) fun t28 =>
  bq (binV Try.prog .add 3 (.tmp 28) (.const (Value.int .i64 100)) t28 (Value.int .i64 100) h) fun t29 =>
  bq (binV Try.prog .rem 3 (.tmp 29) (.const (Value.int .i64 100)) t29 (Value.int .i64 100) h) fun t30 =>
  bq (fa 3 1 t5) fun t31 =>
  bq (ld1 h t31) fun t32 =>
  bq (binV Try.prog .rem 3 (.tmp 32) (.const (Value.int .i64 100)) t32 (Value.int .i64 100) h) fun t33 =>
  bq (binV Try.prog .add 3 (.tmp 33) (.const (Value.int .i64 100)) t33 (Value.int .i64 100) h) fun t34 =>
  bq (binV Try.prog .rem 3 (.tmp 34) (.const (Value.int .i64 100)) t34 (Value.int .i64 100) h) fun t35 =>
  bq (fa 2 1 t5) fun t36 =>
  bq (stN 1 h t36 t30) fun h => (fun _ h => 
  bq (fa 3 1 t5) fun t37 =>
  bq (stN 1 h t37 t35) fun h => (fun _ h => 
  let t9 : Value := (Value.int .i64 0)
  H6_6 t1 t5 t7 t9 h Q) undef h) undef h) (fun v h => Q (.pan v) h)))) (fun v h => Q (.pan v) h))) (opNew h 30 t2.cells).1 (opNew h 30 t2.cells).2) (opNew h 22 t0.cells).1 (opNew h 22 t0.cells).2
theorem X6_eq (t0 t1 t2 : Value) (h : AH) (Q : Res → AH → Prop) : X6 t0 t1 t2 h Q = wpC Try.prog L6 code6 (argA [t0, t1, t2] Try.f6.ntmps) h (retK Try.prog res6 Q) := by kernel_rfl
theorem X6_body : Try.f6.body = some code6 := by kernel_rfl
theorem X6_ok {t0 t1 t2 : Value} {h : AH} {Q : Res → AH → Prop} (H : X6 t0 t1 t2 h Q) : HC Try.prog 6 [t0, t1, t2].toArray h Q := HC.body Try.func6 X6_body ((X6_eq t0 t1 t2 h Q).mp H)

-- 8 mahout/mahoutlaw15.speaks
noncomputable def code8 : Code := match Try.f8.body with | some c => c | none => .skip
noncomputable def res8 : List ResultVar := Try.f8.results.toList
def L8 : Nat → Option (List Nat) := fun r => none
noncomputable def X8 (h : AH) (Q : Res → AH → Prop) : Prop :=
  let t0 : Value := (Value.bool false)
  HC Try.prog 22 (([] : List Value) ++ [(Value.int .i64 2), (Value.int .i64 5)] ++ ([] : List Value)).toArray h (resK (fun t4 h => 
  let t1 : Value := t4
  bq (bd #[(Value.int .i64 0), (Value.int .i64 0), (Value.int .i64 0)] [(0, 1, (Value.int .i64 1)), (1, 1, (Value.int .i64 1))]) fun t5 =>
  (fun t2 h => 
  bq (stN 3 h t2 t5) fun h => (fun _ h => 
  let t6 : Value := t1
  bq (ldN 3 h t2) fun t7 =>
  bq (bs 25 #[(Value.int .i64 0), (Value.int .i64 0), (Value.int .i64 0)] 1 h [(0, 3, t7)]) fun r => (fun t8 h => 
  HC Try.prog 21 (([] : List Value) ++ [t6, (Value.int .i64 1), (Value.complex .f64 0 0), (Value.int .i64 0), t8] ++ ([] : List Value)).toArray h (resK (fun t9 h => 
  let t10 : Value := t1
  HC Try.prog 21 (([] : List Value) ++ [t10, (Value.int .i64 2), (Value.complex .f64 4613937818241073152 0), (Value.int .i64 0), (Value.slice none 0 0)] ++ ([] : List Value)).toArray h (resK (fun t11 h => 
  let t12 : Value := t1
  bq (ldN 3 h t2) fun t13 =>
  bq (bs 25 #[(Value.int .i64 0), (Value.int .i64 0), (Value.int .i64 0)] 1 h [(0, 3, t13)]) fun r => (fun t14 h => 
  HC Try.prog 17 (([] : List Value) ++ [t12, (Value.int .i64 1), t14, (Value.slice none 0 0)] ++ ([] : List Value)).toArray h (resK (fun t15 h => 
  let t3 : Value := t15
  let t16 : Value := t3
  bq (lenL t16) fun t17 =>
  bq (binV Try.prog .eql 3 (.tmp 17) (.const (Value.int .i64 1)) t17 (Value.int .i64 1) h) fun t18 =>
  let t19 : Value := t18
  guardQ t19 true h (fun k => k t3 h) fun t20 h =>
  guardQ t19 true h (fun k => bq (ia 6 t20 (Value.int .i64 0)) fun v => k v h) fun t21 h =>
  guardQ t19 true h (fun k => bq (ldN 6 h t21) fun v => k v h) fun t22 h =>
  guardQ t19 true h (fun k => bq (ldN 3 h t2) fun v => k v h) fun t23 h =>
  guardQ t19 true h (fun k => bq (bd #[(Value.int .i64 0), (Value.int .i64 0), (Value.int .i64 0), (Value.int .i64 0), (Value.int .i64 0), (Value.int .i64 0)] [(0, 1, (Value.int .i64 1)), (1, 3, t23), (4, 1, (Value.int .i64 1)), (5, 1, (Value.int .i64 2))]) fun v => k v h) fun t24 h =>
  guardQ t19 true h (fun k => bq (binV Try.prog .eql 58 (.tmp 22) (.tmp 24) t22 t24 h) fun v => k v h) fun t25 h =>
  bq (pickV t19 t25 (Value.bool false)) fun t26 =>
  let t0 : Value := t26
  Q (.ret t0) h) (fun v h => Q (.pan v) h))) r.1 r.2) (fun v h => Q (.pan v) h))) (fun v h => Q (.pan v) h))) r.1 r.2) undef h) (opNew h 25 #[(Value.int .i64 0), (Value.int .i64 0), (Value.int .i64 0)]).1 (opNew h 25 #[(Value.int .i64 0), (Value.int .i64 0), (Value.int .i64 0)]).2) (fun v h => Q (.pan v) h))
theorem X8_eq (h : AH) (Q : Res → AH → Prop) : X8  h Q = wpC Try.prog L8 code8 (argA [] Try.f8.ntmps) h (retK Try.prog res8 Q) := by kernel_rfl
theorem X8_body : Try.f8.body = some code8 := by kernel_rfl
theorem X8_ok {h : AH} {Q : Res → AH → Prop} (H : X8  h Q) : HC Try.prog 8 [].toArray h Q := HC.body Try.func8 X8_body ((X8_eq  h Q).mp H)

-- 9 mahout/mahoutlaw15.known
noncomputable def code9 : Code := match Try.f9.body with | some c => c | none => .skip
noncomputable def res9 : List ResultVar := Try.f9.results.toList
def L9 : Nat → Option (List Nat) := fun r => if r = 3 then some [2, 8, 9, 10] else if r = 10 then some [2, 8, 9, 10, 11, 13] else none
noncomputable def H9_3 (t2 t8 t9 t10 : Value) (h : AH) (Q : Res → AH → Prop) : Prop := HL Try.prog (cAt code9 [.r, .r, .l, .r, .i, .i]) (mkA 91 [(2, t2), (8, t8), (9, t9), (10, t10)]) h (ctxAt Try.prog L9 code9 [.r, .r, .l, .r, .i] (retK Try.prog res9 Q))
noncomputable def H9_10 (t2 t8 t9 t10 t11 t13 : Value) (h : AH) (Q : Res → AH → Prop) : Prop := HL Try.prog (cAt code9 [.r, .r, .l, .r, .i, .i, .r, .l, .i, .r, .r, .r, .r, .r, .i, .i]) (mkA 91 [(2, t2), (8, t8), (9, t9), (10, t10), (11, t11), (13, t13)]) h (ctxAt Try.prog L9 code9 [.r, .r, .l, .r, .i, .i, .r, .l, .i, .r, .r, .r, .r, .r, .i] (retK Try.prog res9 Q))
noncomputable def X9_10 (t2 t8 t9 t10 t11 t13 : Value) (h : AH) (Q : Res → AH → Prop) : Prop :=
  let t79 : Value := t13
  let t80 : Value := t11
  bq (lenL t80) fun t81 =>
  bq (binV Try.prog .lss 3 (.tmp 79) (.tmp 81) t79 t81 h) fun t82 =>
  condP (some t82)
  (let t85 : Value := t11
  let t86 : Value := t13
  bq (bd #[(Value.int .i64 0), (Value.int .i64 0), (Value.int .i64 0)] [(0, 1, (Value.int .i64 (-9)))]) fun t87 =>
  bq (ia 3 t85 t86) fun t88 =>
  bq (stN 3 h t88 t87) fun h => (fun _ h => 
  let t83 : Value := t13
  bq (binV Try.prog .add 3 (.tmp 83) (.const (Value.int .i64 1)) t83 (Value.int .i64 1) h) fun t84 =>
  let t13 : Value := t84
  H9_10 t2 t8 t9 t10 t11 t13 h Q) undef h)
  (let t24 : Value := t10
  bq (binV Try.prog .add 3 (.tmp 24) (.const (Value.int .i64 1)) t24 (Value.int .i64 1) h) fun t25 =>
  let t10 : Value := t25
  H9_3 t2 t8 t9 t10 h Q)
theorem X9_10_eq (t2 t8 t9 t10 t11 t13 : Value) (h : AH) (Q : Res → AH → Prop) : X9_10 t2 t8 t9 t10 t11 t13 h Q = wpC Try.prog L9 (cAt code9 [.r, .r, .l, .r, .i, .i, .r, .l, .i, .r, .r, .r, .r, .r, .i, .i]) (mkA 91 [(2, t2), (8, t8), (9, t9), (10, t10), (11, t11), (13, t13)]) h (ctxAt Try.prog L9 code9 [.r, .r, .l, .r, .i, .i, .r, .l, .i, .r, .r, .r, .r, .r, .i, .i] (retK Try.prog res9 Q)) := by kernel_rfl
theorem X9_10_ok {t2 t8 t9 t10 t11 t13 : Value} {h : AH} {Q : Res → AH → Prop} (H : X9_10 t2 t8 t9 t10 t11 t13 h Q) : H9_10 t2 t8 t9 t10 t11 t13 h Q := HL.step (L := L9) ((X9_10_eq t2 t8 t9 t10 t11 t13 h Q).mp H)
noncomputable def X9_3 (t2 t8 t9 t10 : Value) (h : AH) (Q : Res → AH → Prop) : Prop :=
  let t20 : Value := t10
  let t21 : Value := t2
  bq (lenL t21) fun t22 =>
  bq (binV Try.prog .lss 3 (.tmp 20) (.tmp 22) t20 t22 h) fun t23 =>
  condP (some t23)
  (bq (bs 25 #[] 0 h []) fun r => (fun t26 h => 
  let t27 : Value := t2
  let t28 : Value := t10
  bq (ia 5 t27 t28) fun t29 =>
  bq (fa 4 1 t29) fun t30 =>
  bq (ld1 h t30) fun t31 =>
  bq (apT 25 3 24 (some (Value.agg #[(Value.int .i64 0), (Value.int .i64 0), (Value.int .i64 0)])) h t26 t31) fun r => (fun t32 h => 
  let t11 : Value := t32
  let t33 : Value := t2
  let t34 : Value := t10
  bq (ia 5 t33 t34) fun t35 =>
  bq (fa 1 1 t35) fun t36 =>
  bq (ld1 h t36) fun t37 =>
  bq (convV Try.prog 3 37 t37 h) fun r => (fun t38 h => 
  let t39 : Value := t2
  let t40 : Value := t10
  bq (ia 5 t39 t40) fun t41 =>
  bq (fa 2 1 t41) fun t42 =>
  bq (ld1 h t42) fun t43 =>
  bq (convV Try.prog 3 37 t43 h) fun r => (fun t44 h => 
  (if [t38, t44].all (plainN 12) then bq (flatV Try.prog (Builtin.complex_ #[37, 37] 36 [t38, t44].toArray)) fun t45 => 
  let t12 : Value := t45
  let t46 : Value := t8
  let t47 : Value := t2
  let t48 : Value := t10
  bq (ia 5 t47 t48) fun t49 =>
  bq (fa 0 1 t49) fun t50 =>
  bq (ld1 h t50) fun t51 =>
  let t52 : Value := t12
  let t53 : Value := t2
  let t54 : Value := t10
  bq (ia 5 t53 t54) fun t55 =>
  bq (fa 3 1 t55) fun t56 =>
  bq (ld1 h t56) fun t57 =>
  let t58 : Value := t11
  exP Try.prog 21 (([] : List Value) ++ [t46, t51, t52, t57, t58] ++ ([] : List Value)).toArray h (fun t59 h => 
  (let t60 : Value := t9
  (let t61 : Value := t2
  (let t62 : Value := t10
  bq (ia 5 t61 t62) fun t63 => (bq (fa 0 1 t63) fun t64 => (bq (ld1 h t64) fun t65 => ((let t66 : Value := t12
  (let t67 : Value := t2
  (let t68 : Value := t10
  bq (ia 5 t67 t68) fun t69 => (bq (fa 3 1 t69) fun t70 => (bq (ld1 h t70) fun t71 => ((let t72 : Value := t2
  (let t73 : Value := t10
  bq (ia 5 t72 t73) fun t74 => (bq (fa 4 1 t74) fun t75 => (bq (ld1 h t75) fun t76 => (exP Try.prog 19 (([] : List Value) ++ [t76] ++ ([] : List Value)).toArray h fun t77 g => g = h ∧ (exP Try.prog 24 (([] : List Value) ++ [t60, t65, t66, t71, t77] ++ ([] : List Value)).toArray h fun t78 g => g = h ∧ ((True) ∧
  (let t13 : Value := (Value.int .i64 0)
  H9_10 t2 t8 t9 t10 t11 t13 h Q))))))))))))))))))))) else False)) r.1 r.2) r.1 r.2) r.1 r.2) r.1 r.2)
  (let t89 : Value := t8
  let t90 : Value := t9
  let t6 : Value := t89
  let t7 : Value := t90
  Q (.ret (.tuple [t6, t7].toArray)) h)
theorem X9_3_eq (t2 t8 t9 t10 : Value) (h : AH) (Q : Res → AH → Prop) : X9_3 t2 t8 t9 t10 h Q = wpC Try.prog L9 (cAt code9 [.r, .r, .l, .r, .i, .i]) (mkA 91 [(2, t2), (8, t8), (9, t9), (10, t10)]) h (ctxAt Try.prog L9 code9 [.r, .r, .l, .r, .i, .i] (retK Try.prog res9 Q)) := by kernel_rfl
theorem X9_3_ok {t2 t8 t9 t10 : Value} {h : AH} {Q : Res → AH → Prop} (H : X9_3 t2 t8 t9 t10 h Q) : H9_3 t2 t8 t9 t10 h Q := HL.step (L := L9) ((X9_3_eq t2 t8 t9 t10 h Q).mp H)
noncomputable def X9 (t0 t1 t2 : Value) (h : AH) (Q : Res → AH → Prop) : Prop :=
  let t6 : Value := (Value.pointer none)
  let t7 : Value := (Value.pointer none)
  let t14 : Value := t0
  let t15 : Value := t1
  HC Try.prog 22 (([] : List Value) ++ [t14, t15] ++ ([] : List Value)).toArray h (resK (fun t16 h => 
  let t17 : Value := t0
  let t18 : Value := t1
  HC Try.prog 23 (([] : List Value) ++ [t17, t18] ++ ([] : List Value)).toArray h (resK (fun t19 h => 
  let t8 : Value := t16
  let t9 : Value := t19
  let t10 : Value := (Value.int .i64 0)
  H9_3 t2 t8 t9 t10 h Q) (fun v h => Q (.pan v) h))) (fun v h => Q (.pan v) h))
theorem X9_eq (t0 t1 t2 : Value) (h : AH) (Q : Res → AH → Prop) : X9 t0 t1 t2 h Q = wpC Try.prog L9 code9 (argA [t0, t1, t2] Try.f9.ntmps) h (retK Try.prog res9 Q) := by kernel_rfl
theorem X9_body : Try.f9.body = some code9 := by kernel_rfl
theorem X9_ok {t0 t1 t2 : Value} {h : AH} {Q : Res → AH → Prop} (H : X9 t0 t1 t2 h Q) : HC Try.prog 9 [t0, t1, t2].toArray h Q := HC.body Try.func9 X9_body ((X9_eq t0 t1 t2 h Q).mp H)

-- 10 mahout/mahoutlaw15.ints
noncomputable def code10 : Code := match Try.f10.body with | some c => c | none => .skip
noncomputable def res10 : List ResultVar := Try.f10.results.toList
def L10 : Nat → Option (List Nat) := fun r => if r = 4 then some [0, 1, 5] else none
noncomputable def H10_4 (t0 t1 t5 : Value) (h : AH) (Q : Res → AH → Prop) : Prop := HL Try.prog (cAt code10 [.r, .r, .l, .r, .i, .i]) (mkA 26 [(0, t0), (1, t1), (5, t5)]) h (ctxAt Try.prog L10 code10 [.r, .r, .l, .r, .i] (retK Try.prog res10 Q))
noncomputable def X10_4 (t0 t1 t5 : Value) (h : AH) (Q : Res → AH → Prop) : Prop :=
  let t11 : Value := t5
  let t12 : Value := t0
  bq (lenL t12) fun t13 =>
  bq (binV Try.prog .lss 3 (.tmp 11) (.tmp 13) t11 t13 h) fun t14 =>
  condP (some t14)
  (let t17 : Value := t0
  let t18 : Value := t5
  bq (ia 1 t17 t18) fun t19 =>
  bq (ld1 h t19) fun t20 =>
  let t21 : Value := t1
  let t22 : Value := t5
  bq (ia 1 t21 t22) fun t23 =>
  bq (ld1 h t23) fun t24 =>
  bq (binV Try.prog .neq 3 (.tmp 20) (.tmp 24) t20 t24 h) fun t25 =>
  condP (some t25)
  (let t4 : Value := (Value.bool false)
  Q (.ret t4) h)
  (let t15 : Value := t5
  bq (binV Try.prog .add 3 (.tmp 15) (.const (Value.int .i64 1)) t15 (Value.int .i64 1) h) fun t16 =>
  let t5 : Value := t16
  H10_4 t0 t1 t5 h Q))
  (let t4 : Value := (Value.bool true)
  Q (.ret t4) h)
theorem X10_4_eq (t0 t1 t5 : Value) (h : AH) (Q : Res → AH → Prop) : X10_4 t0 t1 t5 h Q = wpC Try.prog L10 (cAt code10 [.r, .r, .l, .r, .i, .i]) (mkA 26 [(0, t0), (1, t1), (5, t5)]) h (ctxAt Try.prog L10 code10 [.r, .r, .l, .r, .i, .i] (retK Try.prog res10 Q)) := by kernel_rfl
theorem X10_4_ok {t0 t1 t5 : Value} {h : AH} {Q : Res → AH → Prop} (H : X10_4 t0 t1 t5 h Q) : H10_4 t0 t1 t5 h Q := HL.step (L := L10) ((X10_4_eq t0 t1 t5 h Q).mp H)
noncomputable def X10 (t0 t1 : Value) (h : AH) (Q : Res → AH → Prop) : Prop :=
  let t4 : Value := (Value.bool false)
  let t6 : Value := t0
  bq (lenL t6) fun t7 =>
  let t8 : Value := t1
  bq (lenL t8) fun t9 =>
  bq (binV Try.prog .neq 3 (.tmp 7) (.tmp 9) t7 t9 h) fun t10 =>
  condP (some t10)
  (let t4 : Value := (Value.bool false)
  Q (.ret t4) h)
  (let t5 : Value := (Value.int .i64 0)
  H10_4 t0 t1 t5 h Q)
theorem X10_eq (t0 t1 : Value) (h : AH) (Q : Res → AH → Prop) : X10 t0 t1 h Q = wpC Try.prog L10 code10 (argA [t0, t1] Try.f10.ntmps) h (retK Try.prog res10 Q) := by kernel_rfl
theorem X10_body : Try.f10.body = some code10 := by kernel_rfl
theorem X10_ok {t0 t1 : Value} {h : AH} {Q : Res → AH → Prop} (H : X10 t0 t1 h Q) : HC Try.prog 10 [t0, t1].toArray h Q := HC.body Try.func10 X10_body ((X10_eq t0 t1 h Q).mp H)

-- 19 mahout/mahoutlaw15.refs
noncomputable def code19 : Code := match Try.f19.body with | some c => c | none => .skip
noncomputable def res19 : List ResultVar := Try.f19.results.toList
def L19 : Nat → Option (List Nat) := fun r => if r = 3 then some [0, 3, 4] else none
noncomputable def H19_3 (t0 t3 t4 : Value) (h : AH) (Q : Res → AH → Prop) : Prop := HL Try.prog (cAt code19 [.r, .r, .l, .r, .i, .i]) (mkA 19 [(0, t0), (3, t3), (4, t4)]) h (ctxAt Try.prog L19 code19 [.r, .r, .l, .r, .i] (retK Try.prog res19 Q))
noncomputable def X19_3 (t0 t3 t4 : Value) (h : AH) (Q : Res → AH → Prop) : Prop :=
  let t5 : Value := t4
  let t6 : Value := t0
  bq (lenL t6) fun t7 =>
  bq (binV Try.prog .lss 3 (.tmp 5) (.tmp 7) t5 t7 h) fun t8 =>
  condP (some t8)
  (let t11 : Value := t3
  let t12 : Value := t0
  let t13 : Value := t4
  bq (ia 3 t12 t13) fun t14 =>
  bq (ldN 3 h t14) fun t15 =>
  bq (bs 48 #[(Value.int .i64 0), (Value.int .i64 0), (Value.int .i64 0)] 1 h [(0, 3, t15)]) fun r => (fun t16 h => 
  bq (apT 48 3 24 (some (Value.agg #[(Value.int .i64 0), (Value.int .i64 0), (Value.int .i64 0)])) h t11 t16) fun r => (fun t17 h => 
  let t3 : Value := t17
  let t9 : Value := t4
  bq (binV Try.prog .add 3 (.tmp 9) (.const (Value.int .i64 1)) t9 (Value.int .i64 1) h) fun t10 =>
  let t4 : Value := t10
  H19_3 t0 t3 t4 h Q) r.1 r.2) r.1 r.2)
  (let t18 : Value := t3
  let t2 : Value := t18
  Q (.ret t2) h)
theorem X19_3_eq (t0 t3 t4 : Value) (h : AH) (Q : Res → AH → Prop) : X19_3 t0 t3 t4 h Q = wpC Try.prog L19 (cAt code19 [.r, .r, .l, .r, .i, .i]) (mkA 19 [(0, t0), (3, t3), (4, t4)]) h (ctxAt Try.prog L19 code19 [.r, .r, .l, .r, .i, .i] (retK Try.prog res19 Q)) := by kernel_rfl
theorem X19_3_ok {t0 t3 t4 : Value} {h : AH} {Q : Res → AH → Prop} (H : X19_3 t0 t3 t4 h Q) : H19_3 t0 t3 t4 h Q := HL.step (L := L19) ((X19_3_eq t0 t3 t4 h Q).mp H)
noncomputable def X19 (t0 : Value) (h : AH) (Q : Res → AH → Prop) : Prop :=
  let t2 : Value := (Value.slice none 0 0)
  let t3 : Value := (Value.slice none 0 0)
  let t4 : Value := (Value.int .i64 0)
  H19_3 t0 t3 t4 h Q
theorem X19_eq (t0 : Value) (h : AH) (Q : Res → AH → Prop) : X19 t0 h Q = wpC Try.prog L19 code19 (argA [t0] Try.f19.ntmps) h (retK Try.prog res19 Q) := by kernel_rfl
theorem X19_body : Try.f19.body = some code19 := by kernel_rfl
theorem X19_ok {t0 : Value} {h : AH} {Q : Res → AH → Prop} (H : X19 t0 h Q) : HC Try.prog 19 [t0].toArray h Q := HC.body Try.func19 X19_body ((X19_eq t0 h Q).mp H)

-- 20 mahout/mahoutlaw15.in
noncomputable def code20 : Code := match Try.f20.body with | some c => c | none => .skip
noncomputable def res20 : List ResultVar := Try.f20.results.toList
def L20 : Nat → Option (List Nat) := fun r => if r = 2 then some [0, 1, 5] else none
noncomputable def H20_2 (t0 t1 t5 : Value) (h : AH) (Q : Res → AH → Prop) : Prop := HL Try.prog (cAt code20 [.r, .l, .r, .i, .i]) (mkA 18 [(0, t0), (1, t1), (5, t5)]) h (ctxAt Try.prog L20 code20 [.r, .l, .r, .i] (retK Try.prog res20 Q))
noncomputable def X20_2 (t0 t1 t5 : Value) (h : AH) (Q : Res → AH → Prop) : Prop :=
  let t6 : Value := t5
  let t7 : Value := t0
  bq (lenL t7) fun t8 =>
  bq (binV Try.prog .lss 3 (.tmp 6) (.tmp 8) t6 t8 h) fun t9 =>
  condP (some t9)
  (let t12 : Value := t0
  let t13 : Value := t5
  bq (ia 1 t12 t13) fun t14 =>
  bq (ld1 h t14) fun t15 =>
  let t16 : Value := t1
  bq (binV Try.prog .eql 3 (.tmp 15) (.tmp 16) t15 t16 h) fun t17 =>
  condP (some t17)
  (let t4 : Value := (Value.bool true)
  Q (.ret t4) h)
  (let t10 : Value := t5
  bq (binV Try.prog .add 3 (.tmp 10) (.const (Value.int .i64 1)) t10 (Value.int .i64 1) h) fun t11 =>
  let t5 : Value := t11
  H20_2 t0 t1 t5 h Q))
  (let t4 : Value := (Value.bool false)
  Q (.ret t4) h)
theorem X20_2_eq (t0 t1 t5 : Value) (h : AH) (Q : Res → AH → Prop) : X20_2 t0 t1 t5 h Q = wpC Try.prog L20 (cAt code20 [.r, .l, .r, .i, .i]) (mkA 18 [(0, t0), (1, t1), (5, t5)]) h (ctxAt Try.prog L20 code20 [.r, .l, .r, .i, .i] (retK Try.prog res20 Q)) := by kernel_rfl
theorem X20_2_ok {t0 t1 t5 : Value} {h : AH} {Q : Res → AH → Prop} (H : X20_2 t0 t1 t5 h Q) : H20_2 t0 t1 t5 h Q := HL.step (L := L20) ((X20_2_eq t0 t1 t5 h Q).mp H)
noncomputable def X20 (t0 t1 : Value) (h : AH) (Q : Res → AH → Prop) : Prop :=
  let t4 : Value := (Value.bool false)
  let t5 : Value := (Value.int .i64 0)
  H20_2 t0 t1 t5 h Q
theorem X20_eq (t0 t1 : Value) (h : AH) (Q : Res → AH → Prop) : X20 t0 t1 h Q = wpC Try.prog L20 code20 (argA [t0, t1] Try.f20.ntmps) h (retK Try.prog res20 Q) := by kernel_rfl
theorem X20_body : Try.f20.body = some code20 := by kernel_rfl
theorem X20_ok {t0 t1 : Value} {h : AH} {Q : Res → AH → Prop} (H : X20 t0 t1 h Q) : HC Try.prog 20 [t0, t1].toArray h Q := HC.body Try.func20 X20_body ((X20_eq t0 t1 h Q).mp H)
end Go.Proofs.Ythjdohbkadpnjaa.X
