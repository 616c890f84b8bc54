import Derived.Below
import Derived.Deep.Draws
import Derived.Lib.ItoaMem
import Derived.Lib.LaidTab
import Derived.Lib.Strings
import Derived.Shelf.LaysM
import Derived.Shelf.Small.Strs
import Derived.Shelf.Small.Utf8
import Derived.Shelf.Small.Wraps
import Derived.Shelf.Strconv.Atoi
import Derived.Shelf.Strconv.Itoa0
import Derived.Shelf.Strconv.Itoa1
import Derived.Shelf.Strconv.Itoa2
import Derived.Shelf.Strconv.Itoa3
import Derived.Shelf.Strings.AsciiSet
import Derived.Shelf.Strings.Prefix
import Derived.Shelf.Strings.Runes
import Derived.Shelf.Strings.Search1
import Derived.Shelf.Strings.Search2
import Derived.Shelf.Strings.Search3
import Derived.Shelf.Strings.Shaped
import Derived.Shelf.Strings.SlTrimAscii
import Derived.Shelf.Strings.Trim
import Derived.Sort.Grow
import Derived.Test.YtibigfkeaemanaaGreatDoorProg
import Derived.Test.YtibigfkeaemanaaGreatDoorZ16
import Derived.Test.YtibigfkeaemanaaGreatDoorZ17
import Derived.Test.YtibigfkeaemanaaGreatDoorZ19
set_option linter.unusedVariables false
set_option linter.unusedSimpArgs false
section
namespace Go.Proofs
open Go.Shelf
def Tryz.lays161_ren:Go.Shelf.Ren:=⟨fun | 161=>71 | 231=>81 | 227=>83 | 233=>84 | 235=>86 | 228=>97 | 197=>98 | 151=>99 | 260=>111 | 152=>112 | 137=>24 | 119=>122 | 224=>109 | 225=>108 | 217=>45 | 266=>58 | n=>n,fun | 9=>9 | 4=>4 | 3=>3 | 5=>5 | 117=>144 | 116=>143 | 0=>0 | 124=>147 | 105=>158 | 21=>21 | 119=>183 | 46=>109 | 139=>186 | 138=>185 | n=>n,fun | 3=>6 | 4=>7 | n=>n⟩
theorem Tryz.lays161:Go.Proofs.Lays.n161 Tryz.prog Tryz.lays161_ren:={
 mixed:=by kernel_rfl
 f119:=Tryz.func122.trans (congrArg some (by kernel_rfl))
 f137:=Tryz.func24.trans (congrArg some (by kernel_rfl))
 f151:=Tryz.func99.trans (congrArg some (by kernel_rfl))
 f152:=Tryz.func112.trans (congrArg some (by kernel_rfl))
 f161:=Tryz.func71.trans (congrArg some (by kernel_rfl))
 f197:=Tryz.func98.trans (congrArg some (by kernel_rfl))
 f217:=Tryz.func45.trans (congrArg some (by kernel_rfl))
 f224:=Tryz.func109.trans (congrArg some (by kernel_rfl))
 f225:=Tryz.func108.trans (congrArg some (by kernel_rfl))
 f227:=Tryz.func83.trans (congrArg some (by kernel_rfl))
 f228:=Tryz.func97.trans (congrArg some (by kernel_rfl))
 f231:=Tryz.func81.trans (congrArg some (by kernel_rfl))
 f233:=Tryz.func84.trans (congrArg some (by kernel_rfl))
 f235:=Tryz.func86.trans (congrArg some (by kernel_rfl))
 f260:=Tryz.func111.trans (congrArg some (by kernel_rfl))
 f266:=Tryz.func58.trans (congrArg some (by kernel_rfl))
 t0:=Tryz.underlying0
 a0:=Tryz.isAgg0
 z0:=Tryz.sizeOf0
 v0:=Tryz.zeroValue0
 t3:=Tryz.underlying3
 a3:=Tryz.isAgg3
 z3:=Tryz.sizeOf3
 v3:=Tryz.zeroValue3
 t4:=Tryz.underlying4
 a4:=Tryz.isAgg4
 z4:=Tryz.sizeOf4
 v4:=Tryz.zeroValue4
 t5:=Tryz.underlying5
 a5:=Tryz.isAgg5
 z5:=Tryz.sizeOf5
 v5:=Tryz.zeroValue5
 t9:=Tryz.underlying9
 a9:=Tryz.isAgg9
 z9:=Tryz.sizeOf9
 v9:=Tryz.zeroValue9
 t21:=Tryz.underlying21
 a21:=Tryz.isAgg21
 z21:=Tryz.sizeOf21
 v21:=Tryz.zeroValue21
 t46:=Tryz.underlying109
 a46:=Tryz.isAgg109
 z46:=Tryz.sizeOf109
 v46:=Tryz.zeroValue109
 t105:=Tryz.underlying158
 a105:=Tryz.isAgg158
 z105:=Tryz.sizeOf158
 v105:=Tryz.zeroValue158
 t116:=Tryz.underlying143
 a116:=Tryz.isAgg143
 z116:=Tryz.sizeOf143
 t117:=Tryz.underlying144
 a117:=Tryz.isAgg144
 z117:=Tryz.sizeOf144
 v117:=Tryz.zeroValue144
 t119:=Tryz.underlying183
 a119:=Tryz.isAgg183
 z119:=Tryz.sizeOf183
 t124:=Tryz.underlying147
 a124:=Tryz.isAgg147
 z124:=Tryz.sizeOf147
 v124:=Tryz.zeroValue147
 t138:=Tryz.underlying185
 a138:=Tryz.isAgg185
 z138:=Tryz.sizeOf185
 v138:=Tryz.zeroValue185
 t139:=Tryz.underlying186
 a139:=Tryz.isAgg186
 z139:=Tryz.sizeOf186
 v139:=Tryz.zeroValue186
 g3:=by kernel_rfl
 g4:=by kernel_rfl }
open Go.RowKit in
theorem Tryz.strings_TrimLeft_one (s:ByteArray) (c:UInt8) (hc:c.toNat < 128) (w:World) :
  Calls Tryz.prog 71 #[.string s,.string ⟨#[c]⟩] w fun e w'=>e=.returned (.string ⟨(Lib.trimLeftB s.data.toList c).toArray⟩)∧w' = w:=Any.strings_TrimLeft_one Tryz.lays161 s c hc w
def Tryz.lays160_ren:Go.Shelf.Ren:=⟨fun | 160=>70 | 232=>82 | 231=>81 | 227=>83 | 234=>85 | 233=>84 | 236=>87 | 235=>86 | 228=>97 | 271=>100 | 151=>99 | 197=>98 | 120=>113 | 152=>112 | 260=>111 | 137=>24 | 119=>122 | 224=>109 | 225=>108 | 217=>45 | 266=>58 | n=>n,fun | 9=>9 | 4=>4 | 3=>3 | 5=>5 | 117=>144 | 116=>143 | 0=>0 | 124=>147 | 21=>21 | 105=>158 | 46=>109 | 119=>183 | 139=>186 | 138=>185 | n=>n,fun | 3=>6 | 4=>7 | n=>n⟩
theorem Tryz.lays160:Go.Proofs.Lays.n160 Tryz.prog Tryz.lays160_ren:={
 mixed:=by kernel_rfl
 f119:=Tryz.func122.trans (congrArg some (by kernel_rfl))
 f120:=Tryz.func113.trans (congrArg some (by kernel_rfl))
 f137:=Tryz.func24.trans (congrArg some (by kernel_rfl))
 f151:=Tryz.func99.trans (congrArg some (by kernel_rfl))
 f152:=Tryz.func112.trans (congrArg some (by kernel_rfl))
 f160:=Tryz.func70.trans (congrArg some (by kernel_rfl))
 f197:=Tryz.func98.trans (congrArg some (by kernel_rfl))
 f217:=Tryz.func45.trans (congrArg some (by kernel_rfl))
 f224:=Tryz.func109.trans (congrArg some (by kernel_rfl))
 f225:=Tryz.func108.trans (congrArg some (by kernel_rfl))
 f227:=Tryz.func83.trans (congrArg some (by kernel_rfl))
 f228:=Tryz.func97.trans (congrArg some (by kernel_rfl))
 f231:=Tryz.func81.trans (congrArg some (by kernel_rfl))
 f232:=Tryz.func82.trans (congrArg some (by kernel_rfl))
 f233:=Tryz.func84.trans (congrArg some (by kernel_rfl))
 f234:=Tryz.func85.trans (congrArg some (by kernel_rfl))
 f235:=Tryz.func86.trans (congrArg some (by kernel_rfl))
 f236:=Tryz.func87.trans (congrArg some (by kernel_rfl))
 f260:=Tryz.func111.trans (congrArg some (by kernel_rfl))
 f266:=Tryz.func58.trans (congrArg some (by kernel_rfl))
 f271:=Tryz.func100.trans (congrArg some (by kernel_rfl))
 t0:=Tryz.underlying0
 a0:=Tryz.isAgg0
 z0:=Tryz.sizeOf0
 v0:=Tryz.zeroValue0
 t3:=Tryz.underlying3
 a3:=Tryz.isAgg3
 z3:=Tryz.sizeOf3
 v3:=Tryz.zeroValue3
 t4:=Tryz.underlying4
 a4:=Tryz.isAgg4
 z4:=Tryz.sizeOf4
 v4:=Tryz.zeroValue4
 t5:=Tryz.underlying5
 a5:=Tryz.isAgg5
 z5:=Tryz.sizeOf5
 v5:=Tryz.zeroValue5
 t9:=Tryz.underlying9
 a9:=Tryz.isAgg9
 z9:=Tryz.sizeOf9
 v9:=Tryz.zeroValue9
 t21:=Tryz.underlying21
 a21:=Tryz.isAgg21
 z21:=Tryz.sizeOf21
 v21:=Tryz.zeroValue21
 t46:=Tryz.underlying109
 a46:=Tryz.isAgg109
 z46:=Tryz.sizeOf109
 v46:=Tryz.zeroValue109
 t105:=Tryz.underlying158
 a105:=Tryz.isAgg158
 z105:=Tryz.sizeOf158
 v105:=Tryz.zeroValue158
 t116:=Tryz.underlying143
 a116:=Tryz.isAgg143
 z116:=Tryz.sizeOf143
 t117:=Tryz.underlying144
 a117:=Tryz.isAgg144
 z117:=Tryz.sizeOf144
 v117:=Tryz.zeroValue144
 t119:=Tryz.underlying183
 a119:=Tryz.isAgg183
 z119:=Tryz.sizeOf183
 t124:=Tryz.underlying147
 a124:=Tryz.isAgg147
 z124:=Tryz.sizeOf147
 v124:=Tryz.zeroValue147
 t138:=Tryz.underlying185
 a138:=Tryz.isAgg185
 z138:=Tryz.sizeOf185
 v138:=Tryz.zeroValue185
 t139:=Tryz.underlying186
 a139:=Tryz.isAgg186
 z139:=Tryz.sizeOf186
 v139:=Tryz.zeroValue186
 g3:=by kernel_rfl
 g4:=by kernel_rfl }
def Tryz.lays137_ren:Go.Shelf.Ren:=⟨fun | 137=>24 | 217=>45 | 266=>58 | n=>n,fun | 9=>9 | 5=>5 | 3=>3 | n=>n,fun | n=>n⟩
theorem Tryz.lays137:Go.Proofs.Lays.n137 Tryz.prog Tryz.lays137_ren:={
 mixed:=by kernel_rfl
 f137:=Tryz.func24.trans (congrArg some (by kernel_rfl))
 f217:=Tryz.func45.trans (congrArg some (by kernel_rfl))
 f266:=Tryz.func58.trans (congrArg some (by kernel_rfl))
 t3:=Tryz.underlying3
 a3:=Tryz.isAgg3
 z3:=Tryz.sizeOf3
 v3:=Tryz.zeroValue3
 t5:=Tryz.underlying5
 a5:=Tryz.isAgg5
 z5:=Tryz.sizeOf5
 v5:=Tryz.zeroValue5
 t9:=Tryz.underlying9
 a9:=Tryz.isAgg9
 z9:=Tryz.sizeOf9
 v9:=Tryz.zeroValue9 }
open Go.RowKit in
theorem Tryz.strings_IndexByte (s:ByteArray) (c:Int) (w:World) :
  Calls Tryz.prog 24 #[.string s,.int .u8 c] w fun e w'=>e=.returned (.int .i64 (Lib.indexByte s.data.toList c.toNat.toUInt8))∧w' = w:=Any.strings_IndexByte Tryz.lays137 s c w
def Tryz.lays103_ren:Go.Shelf.Ren:=⟨fun | 103=>69 | 210=>80 | 206=>96 | n=>n,fun | 9=>9 | 4=>4 | 24=>130 | 3=>3 | n=>n,fun | n=>n⟩
theorem Tryz.lays103:Go.Proofs.Lays.n103 Tryz.prog Tryz.lays103_ren:={
 mixed:=by kernel_rfl
 f103:=Tryz.func69.trans (congrArg some (by kernel_rfl))
 f206:=Tryz.func96.trans (congrArg some (by kernel_rfl))
 f210:=Tryz.func80.trans (congrArg some (by kernel_rfl))
 t3:=Tryz.underlying3
 a3:=Tryz.isAgg3
 z3:=Tryz.sizeOf3
 v3:=Tryz.zeroValue3
 t4:=Tryz.underlying4
 a4:=Tryz.isAgg4
 z4:=Tryz.sizeOf4
 v4:=Tryz.zeroValue4
 t9:=Tryz.underlying9
 a9:=Tryz.isAgg9
 z9:=Tryz.sizeOf9
 v9:=Tryz.zeroValue9
 t24:=Tryz.underlying130
 a24:=Tryz.isAgg130
 z24:=Tryz.sizeOf130
 v24:=Tryz.zeroValue130 }
open Go.RowKit in
theorem Tryz.strings_CutPrefix (s p:ByteArray) (w:World) :
  Calls Tryz.prog 69 #[.string s,.string p] w fun e w'=>e=.returned (.tuple #[.string ⟨(Lib.trimPrefix s.data.toList p.data.toList).toArray⟩,.bool (Lib.hasPrefix s.data.toList p.data.toList)])∧w' = w:=Any.strings_CutPrefix Tryz.lays103 s p w
def Tryz.lays172_ren:Go.Shelf.Ren:=⟨fun | 172=>60 | 244=>74 | 245=>75 | 247=>90 | 279=>91 | 280=>92 | 281=>93 | 282=>94 | 287=>105 | 316=>106 | 171=>56 | 205=>107 | 321=>119 | 322=>120 | 243=>73 | 246=>89 | 283=>101 | 284=>102 | 285=>103 | 286=>104 | 129=>115 | 317=>114 | 318=>116 | 319=>117 | 320=>118 | 337=>123 | 338=>124 | n=>n,fun | 9=>9 | 3=>3 | 75=>117 | 76=>118 | 4=>4 | 5=>5 | 167=>151 | 37=>80 | 0=>0 | 85=>152 | 2=>2 | 168=>154 | 53=>162 | 175=>167 | 46=>109 | 210=>170 | 127=>133 | 145=>180 | 143=>178 | 21=>21 | 171=>161 | 173=>165 | 212=>173 | 51=>72 | 20=>20 | 213=>174 | 232=>189 | 233=>190 | 80=>121 | n=>n,fun | 15=>3 | 16=>4 | 17=>5 | 18=>8 | 19=>9 | n=>n⟩
theorem Tryz.lays172:Go.Proofs.Lays.n172 Tryz.prog Tryz.lays172_ren:={
 mixed:=by kernel_rfl
 f129:=Tryz.func115.trans (congrArg some (by kernel_rfl))
 f171:=Tryz.func56.trans (congrArg some (by kernel_rfl))
 f172:=Tryz.func60.trans (congrArg some (by kernel_rfl))
 f205:=Tryz.func107.trans (congrArg some (by kernel_rfl))
 f243:=Tryz.func73.trans (congrArg some (by kernel_rfl))
 f244:=Tryz.func74.trans (congrArg some (by kernel_rfl))
 f245:=Tryz.func75.trans (congrArg some (by kernel_rfl))
 f246:=Tryz.func89.trans (congrArg some (by kernel_rfl))
 f247:=Tryz.func90.trans (congrArg some (by kernel_rfl))
 f279:=Tryz.func91.trans (congrArg some (by kernel_rfl))
 f280:=Tryz.func92.trans (congrArg some (by kernel_rfl))
 f281:=Tryz.func93.trans (congrArg some (by kernel_rfl))
 f282:=Tryz.func94.trans (congrArg some (by kernel_rfl))
 f283:=Tryz.func101.trans (congrArg some (by kernel_rfl))
 f284:=Tryz.func102.trans (congrArg some (by kernel_rfl))
 f285:=Tryz.func103.trans (congrArg some (by kernel_rfl))
 f286:=Tryz.func104.trans (congrArg some (by kernel_rfl))
 f287:=Tryz.func105.trans (congrArg some (by kernel_rfl))
 f316:=Tryz.func106.trans (congrArg some (by kernel_rfl))
 f317:=Tryz.func114.trans (congrArg some (by kernel_rfl))
 f318:=Tryz.func116.trans (congrArg some (by kernel_rfl))
 f319:=Tryz.func117.trans (congrArg some (by kernel_rfl))
 f320:=Tryz.func118.trans (congrArg some (by kernel_rfl))
 f321:=Tryz.func119.trans (congrArg some (by kernel_rfl))
 f322:=Tryz.func120.trans (congrArg some (by kernel_rfl))
 f337:=Tryz.func123.trans (congrArg some (by kernel_rfl))
 f338:=Tryz.func124.trans (congrArg some (by kernel_rfl))
 t0:=Tryz.underlying0
 a0:=Tryz.isAgg0
 z0:=Tryz.sizeOf0
 v0:=Tryz.zeroValue0
 t2:=Tryz.underlying2
 a2:=Tryz.isAgg2
 z2:=Tryz.sizeOf2
 v2:=Tryz.zeroValue2
 t3:=Tryz.underlying3
 a3:=Tryz.isAgg3
 z3:=Tryz.sizeOf3
 v3:=Tryz.zeroValue3
 t4:=Tryz.underlying4
 a4:=Tryz.isAgg4
 z4:=Tryz.sizeOf4
 v4:=Tryz.zeroValue4
 t5:=Tryz.underlying5
 a5:=Tryz.isAgg5
 z5:=Tryz.sizeOf5
 v5:=Tryz.zeroValue5
 t9:=Tryz.underlying9
 a9:=Tryz.isAgg9
 z9:=Tryz.sizeOf9
 v9:=Tryz.zeroValue9
 t20:=Tryz.underlying20
 a20:=Tryz.isAgg20
 z20:=Tryz.sizeOf20
 v20:=Tryz.zeroValue20
 t21:=Tryz.underlying21
 a21:=Tryz.isAgg21
 z21:=Tryz.sizeOf21
 v21:=Tryz.zeroValue21
 t37:=Tryz.underlying80
 a37:=Tryz.isAgg80
 z37:=Tryz.sizeOf80
 v37:=Tryz.zeroValue80
 t46:=Tryz.underlying109
 a46:=Tryz.isAgg109
 z46:=Tryz.sizeOf109
 v46:=Tryz.zeroValue109
 t51:=Tryz.underlying72
 a51:=Tryz.isAgg72
 z51:=Tryz.sizeOf72
 v51:=Tryz.zeroValue72
 t53:=Tryz.underlying162
 a53:=Tryz.isAgg162
 z53:=Tryz.sizeOf162
 v53:=Tryz.zeroValue162
 t75:=Tryz.underlying117
 a75:=Tryz.isAgg117
 z75:=Tryz.sizeOf117
 v75:=Tryz.zeroValue117
 t76:=Tryz.underlying118
 a76:=Tryz.isAgg118
 z76:=Tryz.sizeOf118
 v76:=Tryz.zeroValue118
 t85:=Tryz.underlying152
 a85:=Tryz.isAgg152
 z85:=Tryz.sizeOf152
 v85:=Tryz.zeroValue152
 t127:=Tryz.underlying133
 a127:=Tryz.isAgg133
 z127:=Tryz.sizeOf133
 v127:=Tryz.zeroValue133
 t143:=Tryz.underlying178
 a143:=Tryz.isAgg178
 z143:=Tryz.sizeOf178
 v143:=Tryz.zeroValue178
 t145:=Tryz.underlying180
 a145:=Tryz.isAgg180
 z145:=Tryz.sizeOf180
 v145:=Tryz.zeroValue180
 t167:=Tryz.underlying151
 a167:=Tryz.isAgg151
 z167:=Tryz.sizeOf151
 v167:=Tryz.zeroValue151
 t168:=Tryz.underlying154
 a168:=Tryz.isAgg154
 z168:=Tryz.sizeOf154
 v168:=Tryz.zeroValue154
 t171:=Tryz.underlying161
 a171:=Tryz.isAgg161
 z171:=Tryz.sizeOf161
 v171:=Tryz.zeroValue161
 t173:=Tryz.underlying165
 a173:=Tryz.isAgg165
 z173:=Tryz.sizeOf165
 v173:=Tryz.zeroValue165
 t175:=Tryz.underlying167
 a175:=Tryz.isAgg167
 z175:=Tryz.sizeOf167
 v175:=Tryz.zeroValue167
 t210:=Tryz.underlying170
 a210:=Tryz.isAgg170
 z210:=Tryz.sizeOf170
 v210:=Tryz.zeroValue170
 t212:=Tryz.underlying173
 a212:=Tryz.isAgg173
 z212:=Tryz.sizeOf173
 v212:=Tryz.zeroValue173
 t213:=Tryz.underlying174
 a213:=Tryz.isAgg174
 z213:=Tryz.sizeOf174
 t232:=Tryz.underlying189
 a232:=Tryz.isAgg189
 z232:=Tryz.sizeOf189
 v232:=Tryz.zeroValue189
 t233:=Tryz.underlying190
 a233:=Tryz.isAgg190
 z233:=Tryz.sizeOf190
 v233:=Tryz.zeroValue190
 g15:=by kernel_rfl
 g16:=by kernel_rfl
 g17:=by kernel_rfl
 g18:=by kernel_rfl
 g19:=by kernel_rfl }
open Go.RowKit in
theorem Tryz.strconv_Atoi (s:ByteArray) (n:Int) (hl:s.size ≤ 18) (h:Lib.atoi s.data.toList=some n) (w:World) :
  Calls Tryz.prog 60 #[.string s] w fun e w'=>e=.returned (.tuple #[.int .i64 n,.nilIface])∧∃ t,w' = Lib.bytesWorld w 5 t:=Any.strconv_Atoi Tryz.lays172 s n hl h w
def Tryz.laysM171_ren:Go.Shelf.Ren:=⟨fun | 171=>56 | 243=>73 | 246=>89 | 283=>101 | 284=>102 | 285=>103 | 286=>104 | 129=>115 | 317=>114 | 318=>116 | 319=>117 | 320=>118 | 337=>123 | 338=>124 | n=>n,fun | 3=>3 | 9=>9 | 2=>2 | 4=>4 | 171=>161 | 0=>0 | 53=>162 | 37=>80 | 5=>5 | 173=>165 | 212=>173 | 51=>72 | 20=>20 | 213=>174 | 46=>109 | 232=>189 | 233=>190 | n=>n,fun | 17=>5 | 18=>8 | 19=>9 | n=>n⟩
theorem Tryz.laysM171:Go.Proofs.LaysM.n171 Tryz.prog Tryz.laysM171_ren:={
 mixed:=by kernel_rfl
 f129:=Tryz.func115.trans (congrArg some (by kernel_rfl))
 f171:=Tryz.func56.trans (congrArg some (by kernel_rfl))
 f243:=Tryz.func73.trans (congrArg some (by kernel_rfl))
 f246:=Tryz.func89.trans (congrArg some (by kernel_rfl))
 f283:=Tryz.func101.trans (congrArg some (by kernel_rfl))
 f284:=Tryz.func102.trans (congrArg some (by kernel_rfl))
 f285:=Tryz.func103.trans (congrArg some (by kernel_rfl))
 f286:=Tryz.func104.trans (congrArg some (by kernel_rfl))
 f317:=Tryz.func114.trans (congrArg some (by kernel_rfl))
 f318:=Tryz.func116.trans (congrArg some (by kernel_rfl))
 f319:=Tryz.func117.trans (congrArg some (by kernel_rfl))
 f320:=Tryz.func118.trans (congrArg some (by kernel_rfl))
 f337:=Tryz.func123.trans (congrArg some (by kernel_rfl))
 f338:=Tryz.func124.trans (congrArg some (by kernel_rfl))
 t0:=Tryz.underlying0
 a0:=Tryz.isAgg0
 z0:=Tryz.sizeOf0
 v0:=Tryz.zeroValue0
 t2:=Tryz.underlying2
 a2:=Tryz.isAgg2
 z2:=Tryz.sizeOf2
 v2:=Tryz.zeroValue2
 t3:=Tryz.underlying3
 a3:=Tryz.isAgg3
 z3:=Tryz.sizeOf3
 v3:=Tryz.zeroValue3
 t4:=Tryz.underlying4
 a4:=Tryz.isAgg4
 z4:=Tryz.sizeOf4
 v4:=Tryz.zeroValue4
 t5:=Tryz.underlying5
 a5:=Tryz.isAgg5
 z5:=Tryz.sizeOf5
 v5:=Tryz.zeroValue5
 t9:=Tryz.underlying9
 a9:=Tryz.isAgg9
 z9:=Tryz.sizeOf9
 v9:=Tryz.zeroValue9
 t20:=Tryz.underlying20
 a20:=Tryz.isAgg20
 z20:=Tryz.sizeOf20
 v20:=Tryz.zeroValue20
 t37:=Tryz.underlying80
 a37:=Tryz.isAgg80
 z37:=Tryz.sizeOf80
 v37:=Tryz.zeroValue80
 t46:=Tryz.underlying109
 a46:=Tryz.isAgg109
 z46:=Tryz.sizeOf109
 v46:=Tryz.zeroValue109
 t51:=Tryz.underlying72
 a51:=Tryz.isAgg72
 z51:=Tryz.sizeOf72
 v51:=Tryz.zeroValue72
 t53:=Tryz.underlying162
 a53:=Tryz.isAgg162
 z53:=Tryz.sizeOf162
 v53:=Tryz.zeroValue162
 t171:=Tryz.underlying161
 a171:=Tryz.isAgg161
 z171:=Tryz.sizeOf161
 v171:=Tryz.zeroValue161
 t173:=Tryz.underlying165
 a173:=Tryz.isAgg165
 z173:=Tryz.sizeOf165
 v173:=Tryz.zeroValue165
 t212:=Tryz.underlying173
 a212:=Tryz.isAgg173
 z212:=Tryz.sizeOf173
 v212:=Tryz.zeroValue173
 t213:=Tryz.underlying174
 a213:=Tryz.isAgg174
 z213:=Tryz.sizeOf174
 t232:=Tryz.underlying189
 a232:=Tryz.isAgg189
 z232:=Tryz.sizeOf189
 v232:=Tryz.zeroValue189
 t233:=Tryz.underlying190
 a233:=Tryz.isAgg190
 z233:=Tryz.sizeOf190
 v233:=Tryz.zeroValue190
 g17:=by kernel_rfl
 g18:=by kernel_rfl
 g19:=by kernel_rfl
 i0:=by kernel_rfl
 i2:=by kernel_rfl
 i3:=by kernel_rfl
 i4:=by kernel_rfl
 i5:=by kernel_rfl
 i9:=by kernel_rfl
 i20:=by kernel_rfl
 i37:=by kernel_rfl
 i46:=by kernel_rfl
 i51:=by kernel_rfl
 i53:=by kernel_rfl
 i171:=by kernel_rfl
 i173:=by kernel_rfl
 i212:=by kernel_rfl
 i232:=by kernel_rfl
 i233:=by kernel_rfl
 m17:=by kernel_rfl
 m18:=by kernel_rfl
 m19:=by kernel_rfl }
open Go.RowKit Go.Sort Go.Lib in
theorem Tryz.strconv_Itoa (n:Int) (h0:-9223372036854775808 ≤ n) (h1:n ≤ 9223372036854775807) (w:World) (htab:Lib.TabIs Tryz.prog w "internal/strconv.uint64pow10" .u64 Lib.pow10Tab) :
  Calls Tryz.prog 56 #[.int .i64 n] w fun e w'=>e=.returned (.string ⟨(Lib.itoa n).toArray⟩)∧∃ k os,w' = grow (w.drewN k) os:=Any.strconv_Itoa Tryz.laysM171 n h0 h1 w htab
def Tryz.lays143_ren:Go.Shelf.Ren:=⟨fun | 143=>79 | 219=>95 | 217=>45 | 225=>108 | 224=>109 | 267=>110 | 266=>58 | 314=>121 | n=>n,fun | 9=>9 | 3=>3 | 4=>4 | 5=>5 | 46=>109 | 146=>181 | 51=>72 | n=>n,fun | 1=>1 | n=>n⟩
theorem Tryz.lays143:Go.Proofs.Lays.n143 Tryz.prog Tryz.lays143_ren:={
 mixed:=by kernel_rfl
 f143:=Tryz.func79.trans (congrArg some (by kernel_rfl))
 f217:=Tryz.func45.trans (congrArg some (by kernel_rfl))
 f219:=Tryz.func95.trans (congrArg some (by kernel_rfl))
 f224:=Tryz.func109.trans (congrArg some (by kernel_rfl))
 f225:=Tryz.func108.trans (congrArg some (by kernel_rfl))
 f266:=Tryz.func58.trans (congrArg some (by kernel_rfl))
 f267:=Tryz.func110.trans (congrArg some (by kernel_rfl))
 f314:=Tryz.func121.trans (congrArg some (by kernel_rfl))
 t3:=Tryz.underlying3
 a3:=Tryz.isAgg3
 z3:=Tryz.sizeOf3
 v3:=Tryz.zeroValue3
 t4:=Tryz.underlying4
 a4:=Tryz.isAgg4
 z4:=Tryz.sizeOf4
 v4:=Tryz.zeroValue4
 t5:=Tryz.underlying5
 a5:=Tryz.isAgg5
 z5:=Tryz.sizeOf5
 v5:=Tryz.zeroValue5
 t9:=Tryz.underlying9
 a9:=Tryz.isAgg9
 z9:=Tryz.sizeOf9
 v9:=Tryz.zeroValue9
 t46:=Tryz.underlying109
 a46:=Tryz.isAgg109
 z46:=Tryz.sizeOf109
 v46:=Tryz.zeroValue109
 t51:=Tryz.underlying72
 a51:=Tryz.isAgg72
 z51:=Tryz.sizeOf72
 v51:=Tryz.zeroValue72
 t146:=Tryz.underlying181
 a146:=Tryz.isAgg181
 z146:=Tryz.sizeOf181
 v146:=Tryz.zeroValue181
 g1:=by kernel_rfl }
open Go.RowKit Go.Lib in
theorem Tryz.strings_Index_one (s:ByteArray) (c:UInt8) (w:World) :
  Calls Tryz.prog 79 #[.string s,.string ⟨#[c]⟩] w fun e w'=>e=.returned (.int .i64 (Lib.indexByte s.data.toList c))∧w' = w:=Any.strings_Index_one Tryz.lays143 s c w
open Go.RowKit Go.Lib in
theorem Tryz.strings_Index (s sub:ByteArray) (m:Int) (w:World) (hs:s.size < 4294967281) (hm:w.cell? ⟨1,0,none⟩=some (.int .i64 m)) :
  Calls Tryz.prog 79 #[.string s,.string sub] w fun e w'=>e=.returned (.int .i64 (Lib.index s.data.toList sub.data.toList))∧w' = w:=Any.strings_Index Tryz.lays143 s sub m w hs hm
def Tryz.lays144_ren:Go.Shelf.Ren:=⟨fun | 144=>76 | 143=>79 | 219=>95 | 217=>45 | 225=>108 | 224=>109 | 267=>110 | 266=>58 | 314=>121 | n=>n,fun | 9=>9 | 4=>4 | 3=>3 | 5=>5 | 46=>109 | 146=>181 | 51=>72 | n=>n,fun | 1=>1 | n=>n⟩
theorem Tryz.lays144:Go.Proofs.Lays.n144 Tryz.prog Tryz.lays144_ren:={
 mixed:=by kernel_rfl
 f143:=Tryz.func79.trans (congrArg some (by kernel_rfl))
 f144:=Tryz.func76.trans (congrArg some (by kernel_rfl))
 f217:=Tryz.func45.trans (congrArg some (by kernel_rfl))
 f219:=Tryz.func95.trans (congrArg some (by kernel_rfl))
 f224:=Tryz.func109.trans (congrArg some (by kernel_rfl))
 f225:=Tryz.func108.trans (congrArg some (by kernel_rfl))
 f266:=Tryz.func58.trans (congrArg some (by kernel_rfl))
 f267:=Tryz.func110.trans (congrArg some (by kernel_rfl))
 f314:=Tryz.func121.trans (congrArg some (by kernel_rfl))
 t3:=Tryz.underlying3
 a3:=Tryz.isAgg3
 z3:=Tryz.sizeOf3
 v3:=Tryz.zeroValue3
 t4:=Tryz.underlying4
 a4:=Tryz.isAgg4
 z4:=Tryz.sizeOf4
 v4:=Tryz.zeroValue4
 t5:=Tryz.underlying5
 a5:=Tryz.isAgg5
 z5:=Tryz.sizeOf5
 v5:=Tryz.zeroValue5
 t9:=Tryz.underlying9
 a9:=Tryz.isAgg9
 z9:=Tryz.sizeOf9
 v9:=Tryz.zeroValue9
 t46:=Tryz.underlying109
 a46:=Tryz.isAgg109
 z46:=Tryz.sizeOf109
 v46:=Tryz.zeroValue109
 t51:=Tryz.underlying72
 a51:=Tryz.isAgg72
 z51:=Tryz.sizeOf72
 v51:=Tryz.zeroValue72
 t146:=Tryz.underlying181
 a146:=Tryz.isAgg181
 z146:=Tryz.sizeOf181
 v146:=Tryz.zeroValue181
 g1:=by kernel_rfl }
open Go.RowKit Go.Lib in
theorem Tryz.strings_Contains (s sub:ByteArray) (m:Int) (w:World) (hs:s.size < 4294967281) (hm:w.cell? ⟨1,0,none⟩=some (.int .i64 m)) :
  Calls Tryz.prog 76 #[.string s,.string sub] w fun e w'=>e=.returned (.bool (Lib.contains s.data.toList sub.data.toList))∧w' = w:=Any.strings_Contains Tryz.lays144 s sub m w hs hm
def Tryz.laysM219_ren:Go.Shelf.Ren:=⟨fun | 219=>95 | 217=>45 | 225=>108 | 224=>109 | 267=>110 | 266=>58 | 314=>121 | n=>n,fun | 9=>9 | 3=>3 | 4=>4 | 5=>5 | 46=>109 | 146=>181 | 51=>72 | n=>n,fun | 1=>1 | n=>n⟩
theorem Tryz.laysM219:Go.Proofs.LaysM.n219 Tryz.prog Tryz.laysM219_ren:={
 mixed:=by kernel_rfl
 f217:=Tryz.func45.trans (congrArg some (by kernel_rfl))
 f219:=Tryz.func95.trans (congrArg some (by kernel_rfl))
 f224:=Tryz.func109.trans (congrArg some (by kernel_rfl))
 f225:=Tryz.func108.trans (congrArg some (by kernel_rfl))
 f266:=Tryz.func58.trans (congrArg some (by kernel_rfl))
 f267:=Tryz.func110.trans (congrArg some (by kernel_rfl))
 f314:=Tryz.func121.trans (congrArg some (by kernel_rfl))
 t3:=Tryz.underlying3
 a3:=Tryz.isAgg3
 z3:=Tryz.sizeOf3
 v3:=Tryz.zeroValue3
 t4:=Tryz.underlying4
 a4:=Tryz.isAgg4
 z4:=Tryz.sizeOf4
 v4:=Tryz.zeroValue4
 t5:=Tryz.underlying5
 a5:=Tryz.isAgg5
 z5:=Tryz.sizeOf5
 v5:=Tryz.zeroValue5
 t9:=Tryz.underlying9
 a9:=Tryz.isAgg9
 z9:=Tryz.sizeOf9
 v9:=Tryz.zeroValue9
 t46:=Tryz.underlying109
 a46:=Tryz.isAgg109
 z46:=Tryz.sizeOf109
 v46:=Tryz.zeroValue109
 t51:=Tryz.underlying72
 a51:=Tryz.isAgg72
 z51:=Tryz.sizeOf72
 v51:=Tryz.zeroValue72
 t146:=Tryz.underlying181
 a146:=Tryz.isAgg181
 z146:=Tryz.sizeOf181
 v146:=Tryz.zeroValue181
 g1:=by kernel_rfl
 i3:=by kernel_rfl
 i4:=by kernel_rfl
 i5:=by kernel_rfl
 i9:=by kernel_rfl
 i46:=by kernel_rfl
 i51:=by kernel_rfl
 i146:=by kernel_rfl
 m1:=by kernel_rfl
 s1_3:=fun w h=>Go.Proofs.cell_of_shapedOpen_int (zero:=#[.int .i64 0]) (t:=3) h (of_decide_eq_true (by kernel_rfl)) (by kernel_rfl) rfl (by kernel_rfl) (by kernel_rfl) Tryz.underlying3 }
end Go.Proofs
end
section
namespace Go.Ab
theorem RA.eq_of_plain {E:Ren} {args args':Array Value} {n:Nat} (ra:RA E args args') (ha:args.toList.all (plainN n)=true):args' = args:=by
 apply Array.ext ra.1.symm
 intro i h1 h2
 exact RV.eq_of_plain (List.all_eq_true.1 ha _ (Array.getElem_mem_toList _)) (ra.2 i _ _ (Array.getElem?_eq_getElem h2) (Array.getElem?_eq_getElem h1))
theorem Ex.of_calls {P:Program} {f:FuncId} {args:Array Value} {v:Value} {n:Nat} {h:AH} (ha:args.toList.all (plainN n)=true) (hv:plainN n v=true) (hc:∀ w,Calls P f args w fun e w'=>e=.returned v∧w' = w):Ex P f args h v h:=by
 intro E w args' r ra
 have:=ra.eq_of_plain ha
 subst this
 refine (hc w).mono ?_
 rintro e' w' ⟨rfl,rfl⟩
 exact ⟨E,.ret v,h,(RV.of_plain hv:RV E v v),r,.refl E w',rfl,rfl⟩
theorem Ex.of_calls1 {P:Program} {f:FuncId} {args:Array Value} {v:Value} {n:Nat} {h:AH} {g:Nat} {m:Int} {c:Array Value} {e:TypeId} {fz:Nat × Nat} {so:Option Nat} (hg:g < P.globals.size) (h1:h.get g=some (.cells c e fz,so)) (h2:c[0]?=some (.int .i64 m))
  (ha:args.toList.all (plainN n)=true) (hv:plainN n v=true) (hc:∀ w,w.cell? ⟨g,0,none⟩=some (.int .i64 m)→Calls P f args w fun e w'=>e=.returned v∧w' = w):Ex P f args h v h:=by
 intro E w args' r ra
 have:=ra.eq_of_plain ha
 subst this
 obtain ⟨c',fz',g1,g2,g3,_⟩:=r.cells h1 (r.glob g hg)
 have hlt:0 < c.size:=(Array.getElem?_eq_some_iff.1 h2).1
 have h5:=g3 0 _ _ h2 (Array.getElem?_eq_getElem (by omega))
 have h6:w.cell? ⟨g,0,none⟩=some (.int .i64 m):=by
  have h7:c'[0]?=some (Value.int .i64 m):=by
   rw [Array.getElem?_eq_getElem (by omega)]
   generalize hz:c'[0]=z at h5
   cases h5
   rfl
  simp [World.cell?,g1,h7]
 refine (hc w h6).mono ?_
 rintro e' w' ⟨rfl,rfl⟩
 exact ⟨E,.ret v,h,(RV.of_plain hv:RV E v v),r,.refl E w',rfl,rfl⟩
end Go.Ab
end
section
namespace Go.Ab
theorem RW.growAll {P:Program} {E:Ren} {h:AH}:∀ (l:List Obj) {w:World},RW P E h w→RW P E h (Sort.grow w l.toArray)∧Ext E w E (Sort.grow w l.toArray):=by
 intro l
 induction l with
 | nil=>intro w r;simpa using ⟨r,Ext.refl E w⟩
 | cons o l ih =>
  intro w r
  obtain ⟨r1,x1⟩:=r.beside o
  obtain ⟨r2,x2⟩:=ih r1
  have e:Sort.grow w (o::l).toArray=Sort.grow (w.alloc o) l.toArray:=by
   rw [Sort.alloc_eq_grow,Sort.grow_grow]
   simp
  rw [e]
  exact ⟨r2,x1.trans x2⟩
theorem Ex.of_grows {P:Program} {f:FuncId} {args:Array Value} {v:Value} {n:Nat} {h:AH} (ha:args.toList.all (plainN n)=true) (hv:plainN n v=true)
  (hc:∀ E w,RW P E h w→Calls P f args w fun e w'=>e=.returned v∧∃ k os,w' = Sort.grow (w.drewN k) os):Ex P f args h v h:=by
 intro E w args' r ra
 have:=ra.eq_of_plain ha
 subst this
 refine (hc E w r).mono ?_
 rintro e' w' ⟨rfl,k,os,rfl⟩
 have r1:RW P E h (w.drewN k):=r.of_heap rfl
 have x1:Ext E w E (w.drewN k):=(Ext.refl E _).of_heap rfl rfl rfl rfl (by simp [World.drewN])
 obtain ⟨r2,x2⟩:=r1.growAll os.toList
 exact ⟨E,.ret v,h,(RV.of_plain hv:RV E v v),r2,x1.trans x2,rfl,rfl⟩
theorem RW.tabIs {P:Program} {E:Ren} {h:AH} {w:World} (r:RW P E h w) {name:String} {g:Nat} {k:IntKind} {zs:List Int} {e:TypeId} {fz:Nat × Nat} {so:Option Nat} (hn:P.globalNamed name=some g) (hg:g < P.globals.size)
  (h1:h.get g=some (.cells (zs.map fun z=>Value.int k z).toArray e fz,so)):Lib.TabIs P w name k zs:=by
 unfold Lib.TabIs World.var?
 obtain ⟨c',fz',g1,g2,g3,_⟩:=r.cells h1 (r.glob g hg)
 have hx:=r.exact h1 (r.glob g hg) g1 (r.sep.1 g hg)
 rw [hn,Option.bind_some,g1]
 simp only [Option.some.injEq]
 apply Array.ext hx.symm
 intro i a b
 have hv:=g3 i _ _ (Array.getElem?_eq_getElem b) (Array.getElem?_eq_getElem a)
 generalize hz:c'[i]=z at hv
 simp only [List.getElem_toArray,List.getElem_map] at hv ⊢
 cases hv
 rfl
theorem RW.ofBelow {P:Program} {E:Ren} {h:AH} {w w':World} (r:RW P E h w) (b:Go.RowKit.Below w.heap.size w w') (hd:w.drawn ≤ w'.drawn):RW P E h w'∧Ext E w E w':=by
 have at_:∀ n,n < w.heap.size→w'.heap[n]?=w.heap[n]?:=fun n hn=>b.block n hn
 refine ⟨⟨r.glob,fun k n hk=>⟨(r.dom k n hk).1,Nat.lt_of_lt_of_le (r.dom k n hk).2 b.size⟩,r.sdom,fun k o s hk=>?_,r.inj,fun n c hn=>?_,r.icy,r.sep⟩,
  ⟨.refl E,fun k n hk=>.inl ⟨k,hk⟩,b.size,fun n hn _=>at_ n hn,b.os,b.output,b.tape,hd,fun n hn=>?_⟩⟩
 ·obtain ⟨n,o',h1,h2,h3,h4⟩:=r.live k o s hk
  exact ⟨n,o',h1,by rw [at_ n (r.dom k n h1).2];exact h2,h3,h4⟩
 ·rw [at_ n (r.frzLt hn)];exact r.frz n c hn
 ·cases hf:E.fro n with
  | none=>rw [hf] at hn;cases hn
  | some c=>exact at_ n (r.frzLt hf)
theorem Ex.of_below {P:Program} {f:FuncId} {args:Array Value} {v:Value} {n:Nat} {h:AH} (ha:args.toList.all (plainN n)=true) (hv:plainN n v=true)
  (hc:∀ E w,RW P E h w→Calls P f args w fun e w'=>e=.returned v∧Go.RowKit.Below w.heap.size w w'∧w.drawn ≤ w'.drawn):Ex P f args h v h:=by
 intro E w args' r ra
 have:=ra.eq_of_plain ha
 subst this
 refine (hc E w r).mono ?_
 rintro e' w' ⟨rfl,hb,hd⟩
 obtain ⟨r2,x2⟩:=r.ofBelow hb hd
 exact ⟨E,.ret v,h,(RV.of_plain hv:RV E v v),r2,x2,rfl,rfl⟩
end Go.Ab
end
section
namespace Go.Lang
open Go.Lib
def itoaB (n:Int):ByteArray:=⟨(itoa n).toArray⟩
theorem dec_len:∀ (k u:Nat),u < 10 ^ (k + 1)→(decDigits u).length ≤ k + 1:=by
 intro k
 induction k with
 | zero=>intro u h;rw [decDigits,dif_pos (by simpa using h)];simp
 | succ k ih =>
  intro u h
  by_cases h1:u < 10
  ·rw [decDigits,dif_pos h1];simp
  ·rw [decDigits,dif_neg h1,List.length_append]
   have:=ih (u / 10) (by rw [Nat.pow_succ] at h;omega)
   simp;omega
theorem eqT_iff {a b:ByteArray}:eqT a b=true ↔ a=b:=by
 unfold eqT
 rw [beq_iff_eq]
 refine ⟨fun h=>?_,fun h=>by rw [h]⟩
 rw [Go.Lib.toList_data,Go.Lib.toList_data] at h
 have h1:a.data.toList=b.data.toList:=h
 exact ByteArray.ext (Array.ext' h1)
end Go.Lang
end
section
namespace Go.Proofs.YtibigfkeaemanaaGreatDoor.L
open Go.Ab Go.Lang Go.Proofs.YtibigfkeaemanaaGreatDoor.X
set_option maxRecDepth 100000
theorem cutPrefix_ok {h:AH} (s p:ByteArray):Ex Tryz.prog 69 [.string s,.string p].toArray h (.tuple #[.string ⟨(Lib.trimPrefix s.data.toList p.data.toList).toArray⟩,.bool (Lib.hasPrefix s.data.toList p.data.toList)]) h :=
 Ex.of_calls (n:=12) (of_decide_eq_true (by kernel_rfl)) (of_decide_eq_true (by kernel_rfl)) fun w=>Tryz.strings_CutPrefix s p w
theorem trimLeft_ok {h:AH} (s:ByteArray):Ex Tryz.prog 71 [.string s,.string ⟨#[48]⟩].toArray h (.string ⟨(s.data.toList.dropWhile (· == 48)).toArray⟩) h :=
 Ex.of_calls (n:=12) (of_decide_eq_true (by kernel_rfl)) (of_decide_eq_true (by kernel_rfl)) fun w=>Tryz.strings_TrimLeft_one s 48 (by decide) w
def digitsB:ByteArray:=⟨#[48,49,50,51,52,53,54,55,56,57]⟩
theorem trim_ok {h:AH} (s:ByteArray) (h0:0 < s.size) (hs:s.size ≤ 9223372036854775807):Ex Tryz.prog 70 [.string s,.string ⟨#[48,49,50,51,52,53,54,55,56,57]⟩].toArray h (.string ⟨(Lib.trimS s.data.toList digitsB.data.toList).toArray⟩) h:=by
 refine Ex.of_below (n:=12) (of_decide_eq_true (by kernel_rfl)) (of_decide_eq_true (by kernel_rfl)) fun E w r=>?_
 have h116:((Tryz.prog).info? (Tryz.lays160_ren.t 116)).map (fun i=>(i.zero,i.size))=some (some (.agg (Array.replicate 256 (.bool false))),256):=by kernel_rfl
 refine (Any.strings_Trim_set Tryz.lays160 (zero_of_info h116).1 (zero_of_info h116).2 s digitsB w (of_decide_eq_true (by kernel_rfl)) h0 hs (of_decide_eq_true (by kernel_rfl)) (ascii_of_all (by kernel_rfl))).mono ?_
 rintro e w' ⟨h1,q,rfl⟩
 exact ⟨h1,(((Go.RowKit.Below.refl _ _).alloc (Nat.le_refl _) _).alloc (by simp) _).trans ⟨rfl,rfl,rfl,Nat.le_refl _,fun _ _=>rfl⟩,Nat.le_add_right w.drawn q⟩
theorem atoi18_ok {h:AH} {s:ByteArray} {n:Int} (hl:s.size ≤ 18) (hn:Lib.atoi s.data.toList=some n):Ex Tryz.prog 60 [.string s].toArray h (.tuple #[.int .i64 n,.nilIface]) h:=by
 refine Ex.of_below (n:=12) (of_decide_eq_true (by kernel_rfl)) (of_decide_eq_true (by kernel_rfl)) fun E w r=>?_
 refine (Tryz.strconv_Atoi s n hl hn w).mono ?_
 rintro e w' ⟨h1,t,rfl⟩
 exact ⟨h1,⟨rfl,rfl,rfl,by rw [Lib.bytesWorld_size];omega,fun k hk=>Lib.bytesWorld_at_old w 5 t k hk⟩,Nat.le_succ w.drawn⟩
structure Tab (h:AH):Prop where
 tab:∃ (e:TypeId) (fz:Nat × Nat) (s:Option Nat),h.get 5=some (.cells (Lib.pow10Tab.map fun z=>Value.int .u64 z).toArray e fz,s)
 max:∃ (m:Int) (e:TypeId) (fz:Nat × Nat) (s:Option Nat),h.get 1=some (.cells #[.int .i64 m] e fz,s)
 size:10 ≤ h.size
theorem Tab.kp {h h':AH} (T:Tab h) (K:Kp h.size h h'):Tab h':=by
 obtain ⟨⟨e,fz,s,h1⟩,⟨m,e2,fz2,s2,h2⟩,h3⟩:=T
 exact ⟨⟨e,fz,s,(K.get _ (by omega)).trans h1⟩,⟨m,e2,fz2,s2,(K.get _ (by omega)).trans h2⟩,Nat.le_trans h3 K.size⟩
theorem itoa_ok {h:AH} (T:Tab h) {n:Int} (hn:NumOK n):Ex Tryz.prog 56 [.int .i64 n].toArray h (.string (itoaB n)) h:=by
 obtain ⟨e,fz,so,ht⟩:=T.tab
 unfold NumOK at hn
 refine Ex.of_grows (n:=12) (of_decide_eq_true (by kernel_rfl)) (of_decide_eq_true (by kernel_rfl)) fun E w r=>?_
 exact Tryz.strconv_Itoa n (by omega) (by omega) w (r.tabIs (by kernel_rfl) (of_decide_eq_true (by kernel_rfl)) ht)
theorem index1_ok {h:AH} (s:ByteArray) (c:UInt8):Ex Tryz.prog 79 [.string s,.string ⟨#[c]⟩].toArray h (.int .i64 (Lib.indexByte s.data.toList c)) h :=
 Ex.of_calls (n:=12) (of_decide_eq_true (by kernel_rfl)) (of_decide_eq_true (by kernel_rfl)) fun w=>Tryz.strings_Index_one s c w
theorem index_ok {h:AH} (T:Tab h) (s sub:ByteArray) (hs:s.size < 4294967281):Ex Tryz.prog 79 [.string s,.string sub].toArray h (.int .i64 (Lib.index s.data.toList sub.data.toList)) h:=by
 obtain ⟨m,e,fz,so,h1⟩:=T.max
 exact Ex.of_calls1 (n:=12) (g:=1) (of_decide_eq_true (by kernel_rfl)) h1 rfl rfl rfl fun w hm=>Tryz.strings_Index s sub m w hs hm
theorem decFrom_digits:∀ (l:List UInt8) (a:Nat),(∀ c ∈ l,digit c=true)→Lib.decFrom a l=some (l.foldl (fun n c=>n * 10 + (c.toNat - 48)) a)
 | [],a,_=>rfl
 | c::l,a,h=>by
  have hc:=h c (by simp)
  simp only [digit,Bool.and_eq_true,decide_eq_true_eq,UInt8.le_iff_toNat_le] at hc
  have h1:(48:UInt8).toNat=48:=rfl
  have h2:(57:UInt8).toNat=57:=rfl
  unfold Lib.decFrom Lib.digitVal
  rw [if_pos (by omega)]
  exact decFrom_digits l _ fun d hd=>h d (List.mem_cons_of_mem _ hd)
theorem atoi_digits {l:List UInt8} (h:∀ c ∈ l,digit c=true):Lib.atoi (48::l)=some (digitsV l:Nat):=by
 simp only [Lib.atoi]
 rw [if_neg (by decide),if_neg (by decide)]
 unfold Lib.decNat
 rw [if_neg (by simp),decFrom_digits _ _ (fun c hc=>by
  cases hc with
  | head=>rfl
  | tail _ hc=>exact h c hc)]
 rfl
theorem digit_in (c:UInt8):digitsB.data.toList.contains c=digit c:=by
 obtain ⟨n⟩:=c
 revert n
 decide +kernel
theorem drop_nil_iff {p:UInt8→Bool}:∀ {l:List UInt8},l.dropWhile p=[] ↔ ∀ c ∈ l,p c=true
 | []=>by simp
 | c::l=>by
  rw [List.dropWhile_cons]
  by_cases h:p c=true
  ·rw [if_pos h,drop_nil_iff]
   simp [h]
  ·rw [if_neg h]
   simp [h]
theorem drop_head {p:UInt8→Bool}:∀ {l r:List UInt8} {a:UInt8},l.dropWhile p=a::r→p a=false
 | [],r,a,h=>by cases h
 | c::l,r,a,h=>by
  rw [List.dropWhile_cons] at h
  by_cases hc:p c=true
  ·rw [if_pos hc] at h;exact drop_head h
  ·rw [if_neg hc] at h;cases h;simpa using hc
theorem trim_nil {l:List UInt8}:(Lib.trimS l digitsB.data.toList=[]) ↔ l.all digit=true:=by
 have e:(fun c=>digitsB.data.toList.contains c)=digit:=funext digit_in
 unfold Lib.trimS Lib.trimLeftS Lib.trimRightS
 rw [e]
 constructor
 ·intro h
  apply List.all_eq_true.2
  intro c hc
  have h1:∀ c ∈ (l.reverse.dropWhile digit).reverse,digit c=true:=by
   exact drop_nil_iff.1 h
  have h2:l.reverse.dropWhile digit=[]:=by
   cases hd:l.reverse.dropWhile digit with
   | nil=>rfl
   | cons a r =>
    have h3:=h1 a (by rw [hd];simp)
    rw [drop_head hd] at h3;cases h3
  exact drop_nil_iff.1 h2 c (by simpa using hc)
 ·intro h
  have h2:l.reverse.dropWhile digit=[]:=drop_nil_iff.2 fun c hc=>List.all_eq_true.1 h c (by simpa using hc)
  rw [h2];rfl
theorem mk_data {l:List UInt8}:(ByteArray.mk l.toArray).data.toList=l:=by simp
theorem mk_list {l:List UInt8}:(ByteArray.mk l.toArray).toList=l:=by rw [Lib.toList_data]
theorem mk_sz {l:List UInt8}:(ByteArray.mk l.toArray).size=l.length:=rfl
theorem nil_list:(ByteArray.mk #[]).toList=[]:=by rw [Lib.toList_data]
theorem isNil_beq {l:List UInt8}:(l == [])=l.isEmpty:=by cases l <;> rfl
theorem un_neg {n:Int}:unV Tryz.prog .neg (.int .i64 n)=some (.int .i64 (IntKind.i64.wrap (0 - n))):=by kernel_rfl
theorem eparse_end {h:AH} {m:Bool} {n:Int} (hn:NumOK n) {Q:RQ} (hq:Q (.ret (.int .i64 (if m then -n else n))) h):K51_9 (.bool m) (.int .i64 n) h Q:=by
 refine X51_9_ok ?_
 unfold X51_9
 unfold NumOK at hn
 cases m with
 | false =>
  simp (disch:=first|exact dz|fail) only [SXB,SX,simprocAttr]
  exact hq
 | true =>
  have e:IntKind.i64.wrap (0 - n) = -n:=(wrap64 (by omega) (by omega)).trans (by omega)
  simp (disch:=first|exact dz|fail) only [un_neg,e,SXB,SX,simprocAttr]
  exact hq
theorem digs_le {l:List UInt8}:(l.dropWhile (· == 48)).length ≤ l.length:=(List.dropWhile_sublist _).length_le
theorem eparse_ok {h:AH} (s:ByteArray) (hs:s.size ≤ 4611686018427387904):Ex Tryz.prog 51 [.string s].toArray h (.int .i64 (parseV s)) h:=by
 refine X51_ok ?_
 unfold X51
 simp (disch:=first|exact dz|fail) only [SXB,SX,simprocAttr]
 refine HC.exact (cutPrefix_ok s ⟨#[45]⟩) ?_
 have hm:Lib.hasPrefix s.data.toList (ByteArray.mk #[45]).data.toList=(s.data.toList.head? == some 45):=by
  show [45].isPrefixOf s.data.toList=_
  cases s.data.toList with
  | nil=>rfl
  | cons c l =>
   show (45 == c && true)=(some c == some 45)
   rw [Bool.and_true,Bool.eq_iff_iff,beq_iff_eq,beq_iff_eq]
   exact ⟨fun h=>by rw [h],fun h=>by cases h;rfl⟩
 have hd:Lib.trimPrefix s.data.toList (ByteArray.mk #[45]).data.toList=if s.data.toList.head? == some 45 then s.data.toList.drop 1 else s.data.toList:=by
  unfold Lib.trimPrefix
  rw [hm]
  rfl
 rw [hm,hd]
 have hp:parseV s=if (if s.data.toList.head? == some 45 then s.data.toList.drop 1 else s.data.toList).isEmpty || !(if s.data.toList.head? == some 45 then s.data.toList.drop 1 else s.data.toList).all digit then 0
   else if s.data.toList.head? == some 45 then -parseAbs (if s.data.toList.head? == some 45 then s.data.toList.drop 1 else s.data.toList) else parseAbs (if s.data.toList.head? == some 45 then s.data.toList.drop 1 else s.data.toList):=rfl
 have hlen:(if s.data.toList.head? == some 45 then s.data.toList.drop 1 else s.data.toList).length ≤ 4611686018427387904:=by
  have:s.data.toList.length=s.size:=by rw [Array.length_toList];rfl
  split
  ·simp at this ⊢;omega
  ·omega
 rw [hp]
 generalize (if s.data.toList.head? == some 45 then s.data.toList.drop 1 else s.data.toList)=d at hlen ⊢
 generalize (s.data.toList.head? == some 45)=m
 clear hm hd hp
 cases hd0:d.isEmpty with
 | true =>
  simp (disch:=first|exact dz|fail) only [mk_list,nil_list,isNil_beq,hd0,SXB,SX,simprocAttr]
 | false =>
  have hpos:0 < d.length:=by cases d with | nil=>cases hd0 | cons _ _=>simp
  simp (disch:=first|exact dz|fail) only [mk_list,nil_list,isNil_beq,hd0,SXB,SX,simprocAttr]
  refine HC.exact (trim_ok ⟨d.toArray⟩ (by rw [mk_sz];exact hpos) (by rw [mk_sz];omega)) ?_
  rw [mk_data]
  have ht:(Lib.trimS d digitsB.data.toList).isEmpty=d.all digit:=by
   rw [Bool.eq_iff_iff,List.isEmpty_iff];exact trim_nil
  generalize Lib.trimS d digitsB.data.toList=t at ht
  cases hall:d.all digit with
  | false =>
   rw [hall] at ht
   simp (disch:=first|exact dz|fail) only [mk_list,nil_list,isNil_beq,ht,SXB,SX,simprocAttr]
  | true =>
   rw [hall] at ht
   simp (disch:=first|exact dz|fail) only [mk_list,nil_list,isNil_beq,ht,SXB,SX,simprocAttr]
   refine HC.exact (trimLeft_ok ⟨d.toArray⟩) ?_
   rw [mk_data]
   have hdw:∀ c ∈ d.dropWhile (· == 48),digit c=true:=fun c hc=>List.all_eq_true.1 hall c ((List.dropWhile_sublist _).subset hc)
   have hl:=digs_le (l:=d)
   have hpa:parseAbs d=if (d.dropWhile (· == 48)).length < 18 then boundV (digitsV (d.dropWhile (· == 48))) else maxNum:=rfl
   rw [hpa]
   generalize d.dropWhile (· == 48)=z at hdw hl
   by_cases hz:z.length < 18
   ·have e1:((z.length:Nat):Int) < 18:=by omega
    have e2:(ByteArray.mk #[48]).size + (ByteArray.mk z.toArray).size ≤ 9223372036854775807:=by rw [mk_sz];show 1 + z.length ≤ _;omega
    have e3:(ByteArray.mk #[48]++ByteArray.mk z.toArray).data.toList=48::z:=by simp
    simp (disch:=first|exact dz|fail) only [mk_sz,e1,e2,bin_add_9 e2,SXB,SX,simprocAttr]
    refine HC.exact (atoi18_ok (by rw [ByteArray.size_append,mk_sz];show 1 + z.length ≤ _;omega) (by rw [e3];exact atoi_digits hdw)) ?_
    simp (disch:=first|exact dz|fail) only [SXB,SX,simprocAttr]
    refine HC.exact (bound_ok _) ?_
    refine eparse_end (num_bound _) ?_
    rw [if_pos hz]
    exact ⟨rfl,rfl⟩
   ·have e1:¬ ((z.length:Nat):Int) < 18:=by omega
    simp (disch:=first|exact dz|fail) only [mk_sz,e1,SXB,SX,simprocAttr]
    refine eparse_end (by unfold NumOK;omega) ?_
    rw [if_neg hz]
    exact ⟨rfl,rfl⟩
theorem abs_num (l:List UInt8):NumOK (parseAbs l)∧NumOK (-parseAbs l):=by
 have h:-1099511627776 ≤ parseAbs l∧parseAbs l ≤ 1099511627776:=by
  unfold parseAbs
  simp only
  split
  ·exact num_bound _
  ·decide
 unfold NumOK
 omega
theorem parse_num (s:ByteArray):NumOK (parseV s):=by
 have h0:NumOK 0:=by unfold NumOK;omega
 unfold parseV
 simp only
 generalize (if (s.data.toList.head? == some 45)=true then s.data.toList.drop 1 else s.data.toList)=d
 split
 ·exact h0
 ·split
  ·exact (abs_num _).2
  ·exact (abs_num _).1
end Go.Proofs.YtibigfkeaemanaaGreatDoor.L
end
