/- The library's functions that the scanner and the parser call, out of the kit's shelf. No condition. -/
import Derived.Test.YtbedigkncjbggaaGreatDoorXQ1
import Derived.Shelf.Strings.OnBuilder
import Derived.Shelf.Small.Strs
import Derived.Shelf.Strings.Search3
import Derived.Shelf.Strings.Fields
import Derived.Test.YtbedigkncjbggaaGreatDoorXG7
set_option maxRecDepth 20000
namespace Go.Proofs.YtbedigkncjbggaaGreatDoor
open Go Go.Vc Go.Shelf
def Z4O:Go.Shelf.Ren:=⟨fun|158=>93|165=>80|166=>81|167=>133|169=>82|230=>134|203=>135|240=>129|241=>130|197=>153|118=>154|168=>155|270=>156|262=>157|276=>147|277=>148|260=>171|242=>172|313=>173|278=>181|274=>182|275=>183|n=>n,fun|9=>9|4=>4|3=>3|5=>5|72=>118|0=>0|76=>122|75=>121|107=>164|70=>116|20=>20|37=>37|127=>160|21=>21|105=>180|164=>172|162=>201|203=>199|119=>187|46=>161|139=>210|138=>209|51=>194|160=>211|208=>230|206=>228|80=>72|n=>n,fun|13=>3|3=>5|4=>6|n=>n⟩
theorem lays158:Go.Proofs.Lays.n158 Tryz.prog Z4O:={
 mixed:=by kernel_rfl
 f118:=Tryz.func154.trans (congrArg some qK)
 f158:=Tryz.func93.trans (congrArg some qK)
 f165:=Tryz.func80.trans (congrArg some qK)
 f166:=Tryz.func81.trans (congrArg some qK)
 f167:=Tryz.func133.trans (congrArg some qK)
 f168:=Tryz.func155.trans (congrArg some qK)
 f169:=Tryz.func82.trans (congrArg some qK)
 f197:=Tryz.func153.trans (congrArg some qK)
 f203:=Tryz.func135.trans (congrArg some qK)
 f230:=Tryz.func134.trans (congrArg some qK)
 f240:=Tryz.func129.trans (congrArg some qK)
 f241:=Tryz.func130.trans (congrArg some qK)
 f242:=Tryz.func172.trans (congrArg some qK)
 f260:=Tryz.func171.trans (congrArg some qK)
 f262:=Tryz.func157.trans (congrArg some qK)
 f270:=Tryz.func156.trans (congrArg some qK)
 f274:=Tryz.func182.trans (congrArg some qK)
 f275:=Tryz.func183.trans (congrArg some qK)
 f276:=Tryz.func147.trans (congrArg some qK)
 f277:=Tryz.func148.trans (congrArg some qK)
 f278:=Tryz.func181.trans (congrArg some qK)
 f313:=Tryz.func173.trans (congrArg some qK)
 t0:=Tryz.underlying0
 a0:=Tryz.isAgg0
 z0:=Tryz.sizeOf0
 v0:=Tryz.zeroValue0
 t3:=Tryz.underlying3
 a3:=Tryz.isAgg3
 z3:=Tryz.sizeOf3
 v3:=Tryz.zeroValue3
 t4:=Tryz.underlying4
 a4:=Tryz.isAgg4
 z4:=Tryz.sizeOf4
 v4:=Tryz.zeroValue4
 t5:=Tryz.underlying5
 a5:=Tryz.isAgg5
 z5:=Tryz.sizeOf5
 v5:=Tryz.zeroValue5
 t9:=Tryz.underlying9
 a9:=Tryz.isAgg9
 z9:=Tryz.sizeOf9
 v9:=Tryz.zeroValue9
 t20:=Tryz.underlying20
 a20:=Tryz.isAgg20
 z20:=Tryz.sizeOf20
 v20:=Tryz.zeroValue20
 t21:=Tryz.underlying21
 a21:=Tryz.isAgg21
 z21:=Tryz.sizeOf21
 v21:=Tryz.zeroValue21
 t37:=Tryz.underlying37
 a37:=Tryz.isAgg37
 z37:=Tryz.sizeOf37
 v37:=Tryz.zeroValue37
 t46:=Tryz.underlying161
 a46:=Tryz.isAgg161
 z46:=Tryz.sizeOf161
 v46:=Tryz.zeroValue161
 t51:=Tryz.underlying194
 a51:=Tryz.isAgg194
 z51:=Tryz.sizeOf194
 v51:=Tryz.zeroValue194
 t70:=Tryz.underlying116
 a70:=Tryz.isAgg116
 z70:=Tryz.sizeOf116
 v70:=Tryz.zeroValue116
 t72:=Tryz.underlying118
 a72:=Tryz.isAgg118
 z72:=Tryz.sizeOf118
 v72:=Tryz.zeroValue118
 t75:=Tryz.underlying121
 a75:=Tryz.isAgg121
 z75:=Tryz.sizeOf121
 v75:=Tryz.zeroValue121
 t76:=Tryz.underlying122
 a76:=Tryz.isAgg122
 z76:=Tryz.sizeOf122
 v76:=Tryz.zeroValue122
 t105:=Tryz.underlying180
 a105:=Tryz.isAgg180
 z105:=Tryz.sizeOf180
 v105:=Tryz.zeroValue180
 t107:=Tryz.underlying164
 a107:=Tryz.isAgg164
 z107:=Tryz.sizeOf164
 v107:=Tryz.zeroValue164
 t119:=Tryz.underlying187
 a119:=Tryz.isAgg187
 z119:=Tryz.sizeOf187
 t127:=Tryz.underlying160
 a127:=Tryz.isAgg160
 z127:=Tryz.sizeOf160
 v127:=Tryz.zeroValue160
 t138:=Tryz.underlying209
 a138:=Tryz.isAgg209
 z138:=Tryz.sizeOf209
 v138:=Tryz.zeroValue209
 t139:=Tryz.underlying210
 a139:=Tryz.isAgg210
 z139:=Tryz.sizeOf210
 v139:=Tryz.zeroValue210
 t160:=Tryz.underlying211
 a160:=Tryz.isAgg211
 z160:=Tryz.sizeOf211
 v160:=Tryz.zeroValue211
 t162:=Tryz.underlying201
 a162:=Tryz.isAgg201
 z162:=Tryz.sizeOf201
 v162:=Tryz.zeroValue201
 t164:=Tryz.underlying172
 a164:=Tryz.isAgg172
 z164:=Tryz.sizeOf172
 v164:=Tryz.zeroValue172
 t203:=Tryz.underlying199
 a203:=Tryz.isAgg199
 z203:=Tryz.sizeOf199
 v203:=Tryz.zeroValue199
 t206:=Tryz.underlying228
 a206:=Tryz.isAgg228
 z206:=Tryz.sizeOf228
 v206:=Tryz.zeroValue228
 t208:=Tryz.underlying230
 a208:=Tryz.isAgg230
 z208:=Tryz.sizeOf230
 v208:=Tryz.zeroValue230
 g3:=by kernel_rfl
 g4:=by kernel_rfl
 g13:=by kernel_rfl}
theorem extra158:Builder.Extra Tryz.prog Z4O:={
 sizeBuilder:=by kernel_rfl
 liesBuilder:=by kernel_rfl
 t5:=Tryz.underlying5
 a5:=Tryz.isAgg5
 z5:=Tryz.sizeOf5
 v5:=Tryz.zeroValue5
 infoByte:=by kernel_rfl
 cellsByte:=by kernel_rfl
 sizeByte:=by kernel_rfl
 neB5:=by decide}
open Go.RowKit in
def Za9:Go.Shelf.Ren:=⟨fun|159=>142|165=>80|166=>81|167=>133|169=>82|230=>134|204=>161|240=>129|241=>130|197=>153|118=>154|168=>155|270=>156|262=>157|276=>147|277=>148|260=>171|242=>172|313=>173|278=>181|274=>182|275=>183|n=>n,fun|9=>9|4=>4|3=>3|5=>5|72=>118|0=>0|76=>122|75=>121|107=>164|70=>116|20=>20|37=>37|127=>160|21=>21|105=>180|164=>172|162=>201|203=>199|119=>187|46=>161|139=>210|138=>209|51=>194|160=>211|208=>230|206=>228|80=>72|n=>n,fun|13=>3|3=>5|4=>6|n=>n⟩
theorem lays159:Go.Proofs.Lays.n159 Tryz.prog Za9:={
 mixed:=by kernel_rfl
 f118:=Tryz.func154.trans (congrArg some qK)
 f159:=Tryz.func142.trans (congrArg some qK)
 f165:=Tryz.func80.trans (congrArg some qK)
 f166:=Tryz.func81.trans (congrArg some qK)
 f167:=Tryz.func133.trans (congrArg some qK)
 f168:=Tryz.func155.trans (congrArg some qK)
 f169:=Tryz.func82.trans (congrArg some qK)
 f197:=Tryz.func153.trans (congrArg some qK)
 f204:=Tryz.func161.trans (congrArg some qK)
 f230:=Tryz.func134.trans (congrArg some qK)
 f240:=Tryz.func129.trans (congrArg some qK)
 f241:=Tryz.func130.trans (congrArg some qK)
 f242:=Tryz.func172.trans (congrArg some qK)
 f260:=Tryz.func171.trans (congrArg some qK)
 f262:=Tryz.func157.trans (congrArg some qK)
 f270:=Tryz.func156.trans (congrArg some qK)
 f274:=Tryz.func182.trans (congrArg some qK)
 f275:=Tryz.func183.trans (congrArg some qK)
 f276:=Tryz.func147.trans (congrArg some qK)
 f277:=Tryz.func148.trans (congrArg some qK)
 f278:=Tryz.func181.trans (congrArg some qK)
 f313:=Tryz.func173.trans (congrArg some qK)
 t0:=Tryz.underlying0
 a0:=Tryz.isAgg0
 z0:=Tryz.sizeOf0
 v0:=Tryz.zeroValue0
 t3:=Tryz.underlying3
 a3:=Tryz.isAgg3
 z3:=Tryz.sizeOf3
 v3:=Tryz.zeroValue3
 t4:=Tryz.underlying4
 a4:=Tryz.isAgg4
 z4:=Tryz.sizeOf4
 v4:=Tryz.zeroValue4
 t5:=Tryz.underlying5
 a5:=Tryz.isAgg5
 z5:=Tryz.sizeOf5
 v5:=Tryz.zeroValue5
 t9:=Tryz.underlying9
 a9:=Tryz.isAgg9
 z9:=Tryz.sizeOf9
 v9:=Tryz.zeroValue9
 t20:=Tryz.underlying20
 a20:=Tryz.isAgg20
 z20:=Tryz.sizeOf20
 v20:=Tryz.zeroValue20
 t21:=Tryz.underlying21
 a21:=Tryz.isAgg21
 z21:=Tryz.sizeOf21
 v21:=Tryz.zeroValue21
 t37:=Tryz.underlying37
 a37:=Tryz.isAgg37
 z37:=Tryz.sizeOf37
 v37:=Tryz.zeroValue37
 t46:=Tryz.underlying161
 a46:=Tryz.isAgg161
 z46:=Tryz.sizeOf161
 v46:=Tryz.zeroValue161
 t51:=Tryz.underlying194
 a51:=Tryz.isAgg194
 z51:=Tryz.sizeOf194
 v51:=Tryz.zeroValue194
 t70:=Tryz.underlying116
 a70:=Tryz.isAgg116
 z70:=Tryz.sizeOf116
 v70:=Tryz.zeroValue116
 t72:=Tryz.underlying118
 a72:=Tryz.isAgg118
 z72:=Tryz.sizeOf118
 v72:=Tryz.zeroValue118
 t75:=Tryz.underlying121
 a75:=Tryz.isAgg121
 z75:=Tryz.sizeOf121
 v75:=Tryz.zeroValue121
 t76:=Tryz.underlying122
 a76:=Tryz.isAgg122
 z76:=Tryz.sizeOf122
 v76:=Tryz.zeroValue122
 t105:=Tryz.underlying180
 a105:=Tryz.isAgg180
 z105:=Tryz.sizeOf180
 v105:=Tryz.zeroValue180
 t107:=Tryz.underlying164
 a107:=Tryz.isAgg164
 z107:=Tryz.sizeOf164
 v107:=Tryz.zeroValue164
 t119:=Tryz.underlying187
 a119:=Tryz.isAgg187
 z119:=Tryz.sizeOf187
 t127:=Tryz.underlying160
 a127:=Tryz.isAgg160
 z127:=Tryz.sizeOf160
 v127:=Tryz.zeroValue160
 t138:=Tryz.underlying209
 a138:=Tryz.isAgg209
 z138:=Tryz.sizeOf209
 v138:=Tryz.zeroValue209
 t139:=Tryz.underlying210
 a139:=Tryz.isAgg210
 z139:=Tryz.sizeOf210
 v139:=Tryz.zeroValue210
 t160:=Tryz.underlying211
 a160:=Tryz.isAgg211
 z160:=Tryz.sizeOf211
 v160:=Tryz.zeroValue211
 t162:=Tryz.underlying201
 a162:=Tryz.isAgg201
 z162:=Tryz.sizeOf201
 v162:=Tryz.zeroValue201
 t164:=Tryz.underlying172
 a164:=Tryz.isAgg172
 z164:=Tryz.sizeOf172
 v164:=Tryz.zeroValue172
 t203:=Tryz.underlying199
 a203:=Tryz.isAgg199
 z203:=Tryz.sizeOf199
 v203:=Tryz.zeroValue199
 t206:=Tryz.underlying228
 a206:=Tryz.isAgg228
 z206:=Tryz.sizeOf228
 v206:=Tryz.zeroValue228
 t208:=Tryz.underlying230
 a208:=Tryz.isAgg230
 z208:=Tryz.sizeOf230
 v208:=Tryz.zeroValue230
 g3:=by kernel_rfl
 g4:=by kernel_rfl
 g13:=by kernel_rfl}
theorem extra159:Builder.Extra Tryz.prog Za9:={
 sizeBuilder:=by kernel_rfl
 liesBuilder:=by kernel_rfl
 t5:=Tryz.underlying5
 a5:=Tryz.isAgg5
 z5:=Tryz.sizeOf5
 v5:=Tryz.zeroValue5
 infoByte:=by kernel_rfl
 cellsByte:=by kernel_rfl
 sizeByte:=by kernel_rfl
 neB5:=by decide}
open Go.RowKit in
def ZdE:Go.Shelf.Ren:=⟨fun|137=>97|217=>138|266=>160|n=>n,fun|9=>9|5=>5|3=>3|n=>n,fun|n=>n⟩
theorem lays137:Go.Proofs.Lays.n137 Tryz.prog ZdE:={
 mixed:=by kernel_rfl
 f137:=Tryz.func97.trans (congrArg some qK)
 f217:=Tryz.func138.trans (congrArg some qK)
 f266:=Tryz.func160.trans (congrArg some qK)
 t3:=Tryz.underlying3
 a3:=Tryz.isAgg3
 z3:=Tryz.sizeOf3
 v3:=Tryz.zeroValue3
 t5:=Tryz.underlying5
 a5:=Tryz.isAgg5
 z5:=Tryz.sizeOf5
 v5:=Tryz.zeroValue5
 t9:=Tryz.underlying9
 a9:=Tryz.isAgg9
 z9:=Tryz.sizeOf9
 v9:=Tryz.zeroValue9}
open Go.RowKit in
def Ziz:Go.Shelf.Ren:=⟨fun|143=>159|219=>176|217=>138|225=>184|224=>185|267=>186|266=>160|314=>190|n=>n,fun|9=>9|3=>3|4=>4|5=>5|46=>161|146=>231|51=>194|n=>n,fun|1=>1|n=>n⟩
open Go.RowKit Go.Lib in
def ZdJ:Go.Shelf.Ren:=⟨fun|144=>141|143=>159|219=>176|217=>138|225=>184|224=>185|267=>186|266=>160|314=>190|n=>n,fun|9=>9|4=>4|3=>3|5=>5|46=>161|146=>231|51=>194|n=>n,fun|1=>1|n=>n⟩
theorem lays144:Go.Proofs.Lays.n144 Tryz.prog ZdJ:={
 mixed:=by kernel_rfl
 f143:=Tryz.func159.trans (congrArg some qK)
 f144:=Tryz.func141.trans (congrArg some qK)
 f217:=Tryz.func138.trans (congrArg some qK)
 f219:=Tryz.func176.trans (congrArg some qK)
 f224:=Tryz.func185.trans (congrArg some qK)
 f225:=Tryz.func184.trans (congrArg some qK)
 f266:=Tryz.func160.trans (congrArg some qK)
 f267:=Tryz.func186.trans (congrArg some qK)
 f314:=Tryz.func190.trans (congrArg some qK)
 t3:=Tryz.underlying3
 a3:=Tryz.isAgg3
 z3:=Tryz.sizeOf3
 v3:=Tryz.zeroValue3
 t4:=Tryz.underlying4
 a4:=Tryz.isAgg4
 z4:=Tryz.sizeOf4
 v4:=Tryz.zeroValue4
 t5:=Tryz.underlying5
 a5:=Tryz.isAgg5
 z5:=Tryz.sizeOf5
 v5:=Tryz.zeroValue5
 t9:=Tryz.underlying9
 a9:=Tryz.isAgg9
 z9:=Tryz.sizeOf9
 v9:=Tryz.zeroValue9
 t46:=Tryz.underlying161
 a46:=Tryz.isAgg161
 z46:=Tryz.sizeOf161
 v46:=Tryz.zeroValue161
 t51:=Tryz.underlying194
 a51:=Tryz.isAgg194
 z51:=Tryz.sizeOf194
 v51:=Tryz.zeroValue194
 t146:=Tryz.underlying231
 a146:=Tryz.isAgg231
 z146:=Tryz.sizeOf231
 v146:=Tryz.zeroValue231
 g1:=by kernel_rfl}
open Go.RowKit Go.Lib in
def Zdt:Go.Shelf.Ren:=⟨fun|157=>144|229=>162|199=>163|261=>177|311=>187|312=>188|n=>n,fun|9=>9|31=>24|3=>3|5=>5|4=>4|119=>187|0=>0|40=>189|152=>202|21=>21|154=>204|51=>194|141=>206|196=>217|193=>214|198=>220|49=>218|194=>215|201=>223|226=>233|46=>161|227=>234|n=>n,fun|0=>0|6=>4|n=>n⟩
theorem lays157:Go.Proofs.Lays.n157 Tryz.prog Zdt:={
 mixed:=by kernel_rfl
 f157:=Tryz.func144.trans (congrArg some qK)
 f199:=Tryz.func163.trans (congrArg some qK)
 f229:=Tryz.func162.trans (congrArg some qK)
 f261:=Tryz.func177.trans (congrArg some qK)
 f311:=Tryz.func187.trans (congrArg some qK)
 f312:=Tryz.func188.trans (congrArg some qK)
 t0:=Tryz.underlying0
 a0:=Tryz.isAgg0
 z0:=Tryz.sizeOf0
 v0:=Tryz.zeroValue0
 t3:=Tryz.underlying3
 a3:=Tryz.isAgg3
 z3:=Tryz.sizeOf3
 v3:=Tryz.zeroValue3
 t4:=Tryz.underlying4
 a4:=Tryz.isAgg4
 z4:=Tryz.sizeOf4
 v4:=Tryz.zeroValue4
 t5:=Tryz.underlying5
 a5:=Tryz.isAgg5
 z5:=Tryz.sizeOf5
 v5:=Tryz.zeroValue5
 t9:=Tryz.underlying9
 a9:=Tryz.isAgg9
 z9:=Tryz.sizeOf9
 v9:=Tryz.zeroValue9
 t21:=Tryz.underlying21
 a21:=Tryz.isAgg21
 z21:=Tryz.sizeOf21
 v21:=Tryz.zeroValue21
 t31:=Tryz.underlying24
 a31:=Tryz.isAgg24
 z31:=Tryz.sizeOf24
 v31:=Tryz.zeroValue24
 t40:=Tryz.underlying189
 a40:=Tryz.isAgg189
 z40:=Tryz.sizeOf189
 v40:=Tryz.zeroValue189
 t46:=Tryz.underlying161
 a46:=Tryz.isAgg161
 z46:=Tryz.sizeOf161
 v46:=Tryz.zeroValue161
 t49:=Tryz.underlying218
 a49:=Tryz.isAgg218
 z49:=Tryz.sizeOf218
 v49:=Tryz.zeroValue218
 t51:=Tryz.underlying194
 a51:=Tryz.isAgg194
 z51:=Tryz.sizeOf194
 v51:=Tryz.zeroValue194
 t119:=Tryz.underlying187
 a119:=Tryz.isAgg187
 z119:=Tryz.sizeOf187
 t141:=Tryz.underlying206
 a141:=Tryz.isAgg206
 z141:=Tryz.sizeOf206
 v141:=Tryz.zeroValue206
 t152:=Tryz.underlying202
 a152:=Tryz.isAgg202
 z152:=Tryz.sizeOf202
 v152:=Tryz.zeroValue202
 t154:=Tryz.underlying204
 a154:=Tryz.isAgg204
 z154:=Tryz.sizeOf204
 v154:=Tryz.zeroValue204
 t193:=Tryz.underlying214
 a193:=Tryz.isAgg214
 z193:=Tryz.sizeOf214
 v193:=Tryz.zeroValue214
 t194:=Tryz.underlying215
 a194:=Tryz.isAgg215
 z194:=Tryz.sizeOf215
 v194:=Tryz.zeroValue215
 t196:=Tryz.underlying217
 a196:=Tryz.isAgg217
 z196:=Tryz.sizeOf217
 v196:=Tryz.zeroValue217
 t198:=Tryz.underlying220
 a198:=Tryz.isAgg220
 z198:=Tryz.sizeOf220
 v198:=Tryz.zeroValue220
 t201:=Tryz.underlying223
 a201:=Tryz.isAgg223
 z201:=Tryz.sizeOf223
 v201:=Tryz.zeroValue223
 t226:=Tryz.underlying233
 a226:=Tryz.isAgg233
 z226:=Tryz.sizeOf233
 v226:=Tryz.zeroValue233
 t227:=Tryz.underlying234
 a227:=Tryz.isAgg234
 z227:=Tryz.sizeOf234
 v227:=Tryz.zeroValue234
 g0:=by kernel_rfl
 g6:=by kernel_rfl}
open Go.RowKit Go.Lib in
def GF(w:World):Prop:=∃m,w.cell? ⟨1,0,none⟩=some (.int .i64 m)
def AF(w:World):Prop:=Lib.TabIs Tryz.prog w "strings.asciiSpace" .u8 Lib.asciiSpaceTab
theorem Z9q(s:ByteArray)(c:Int):CallTy Tryz.prog Z9w [.is (.string s),.is (.int .u8 c)] (.is (.int .i64 (Lib.indexByte s.data.toList c.toNat.toUInt8))):=
 .ofShelf0 (ws:=[.string s,.int .u8 c]) (fun _ _=>by kernel_rfl) fun w=>Any.strings_IndexByte lays137 s c w
theorem Za2(s:ByteArray)(hs:s.size<=140737488355328)(ha: ∀(j:Nat) (b:UInt8),s.data.toList[j]? =some b->b.toNat<128):CallTy Tryz.prog Za0 [.is (.string s)] (.is (.string ⟨(Lib.toUpperA s.data.toList).toArray⟩)):=
 .ofShelf (ws:=[.string s]) (fun _ _=>by kernel_rfl) fun w=>Any.strings_ToUpper_ascii lays158 extra158 s w hs ha
theorem Za4(s:ByteArray)(hs:s.size<=140737488355328)(ha: ∀(j:Nat) (b:UInt8),s.data.toList[j]? =some b->b.toNat<128):CallTy Tryz.prog Za1 [.is (.string s)] (.is (.string ⟨(Lib.toLowerA s.data.toList).toArray⟩)):=
 .ofShelf (ws:=[.string s]) (fun _ _=>by kernel_rfl) fun w=>Any.strings_ToLower_ascii lays159 extra159 s w hs ha
theorem Z6h(s sub:ByteArray)(hs:s.size<4294967281):CallF Tryz.prog Z9K [GF] [.is (.string s),.is (.string sub)] (.is (.bool (Lib.contains s.data.toList sub.data.toList))):=
 .ofShelf (ws:=[.string s,.string sub]) (fun _ _=>by kernel_rfl) fun w hw=>by
  obtain⟨m,hm⟩:=hw GF (by simp);exact(Any.strings_Contains lays144 s sub m w hs hm).mono fun e w' ⟨h1,h2⟩=>⟨h1,h2 ▸ .refl _ _⟩
theorem Zao(s:ByteArray)(hs:s.size<4294967281)(ha: ∀(j:Nat) (b:UInt8),s.data.toList[j]? =some b->b.toNat<128):CallF Tryz.prog Z6T [AF] [.is (.string s)] (.newSl (.cells ((Lib.fields s.data.toList).map fun l=>Value.string ⟨l.toArray⟩).toArray 9 (0,0)) (Lib.fields s.data.toList).length (Lib.fields s.data.toList).length):=
 ⟨fun _ _=>by kernel_rfl,fun E w vs hw hF ht=>by
   obtain⟨v,rfl,rfl⟩: ∃v,vs=[v]/\v= .string s:=by
     cases vs with
     |nil=>exact ht.elim
     |cons v vs=>
       obtain⟨h1,h2⟩:=ht;cases vs with
       |nil=>exact⟨v,rfl,h1⟩
       |cons _ _=>exact h2.elim
   have hT:AF w:=(hF AF (by simp)).now;refine Calls.mono (Any.strings_Fields lays157 qK qK s w hs ha hT) ?_;rintro e w' ⟨rfl,rfl⟩;exact⟨_,rfl,Keeps.alloc w _,_,rfl,fun he=>absurd (hw _ he) qM,Z23 w _⟩⟩
end Go.Proofs.YtbedigkncjbggaaGreatDoor
set_option maxRecDepth 20000
namespace Go.Proofs.YtbedigkncjbggaaGreatDoor
open Go Go.Vc
open Go.Pz
theorem Zbu{e:Ps Ex}{ts:List T3}(h:isT 5 Z1s ts=true):factorP e ts=(factorP e ts.tail).map fun z=>(nd 3 [z.1],z.2):=by
 obtain⟨t,r,rfl,_⟩:=Z5a h;rw[factorP,if_pos h];rfl
theorem ZbN{e:Ps Ex}{ts:List T3}(h:isT 5 Z1s ts=false):factorP e ts=atomP e ts:=by
 cases ts with
 |nil=>rw[factorP]
 |cons t r=>rw[factorP,if_neg (by rw[h];decide)]
theorem Z1z{k:Int}{s:ByteArray}{ts:List T3}(h:isT k s ts=true):skT k s ts=ts.tail:=by unfold skT;rw[h];rfl
theorem Z21{k:Int}{s:ByteArray}{ts:List T3}(h:isT k s ts=false):skT k s ts=ts:=by unfold skT;rw[h];rfl
theorem ZH{ts us:List T3}(h:ts<:+us):ts.tail<:+us:=(List.tail_suffix ts).trans h
theorem Z66(T:Tk)(hc:T.ts.length<=T.cap)(b:Nat)(ts:List T3)(hts:ts<:+T.ts)(e:Ps Ex)(hat:CallP Tryz.prog Z2S [PB T b (ts)] [T.G,AF] [.is (.pointer (some ⟨b,0,none⟩))] (atomP e (ts)=none) flt (fun z:Ex×List T3=>atomP e (ts)=some z) (fun z=>[PB T b z.2]) (fun z=>.rep (ExR z.1)))(ih: ∀us,us<:+T.ts->us.length<ts.length->CallP Tryz.prog Z1Y [PB T b (us)] [T.G,AF] [.is (.pointer (some ⟨b,0,none⟩))] (factorP e (us)=none) flt (fun z:Ex×List T3=>factorP e (us)=some z) (fun z=>[PB T b z.2]) (fun z=>.rep (ExR z.1))):CallP Tryz.prog Z1Y [PB T b ts] [T.G,AF] [.is (.pointer (some ⟨b,0,none⟩))] (factorP e ts=none) flt (fun z:Ex×List T3=>factorP e ts=some z) (fun z=>[PB T b z.2]) (fun z=>.rep (ExR z.1)):=
CallP.of (fn:=Tryz.f191) Tryz.func191 (n:=11) rfl rfl rfl (fun _ _=>by kernel_rfl) fun E W hb0=>by
 refine vQ ?_;refine JO.alloc Z14 rfl fun b2=>(vP [0,2] ?_);refine Jm rfl (JO.callK (Lr:=[_]) (ZE T hc b ts hts Z1s) rfl (.swap _ _ _) qF qA ?_);intro z hz;refine vD ?_;refine vS [0,2,4] ?_;refine yC rfl (fun ht4=>?_) (fun ht4=>?_);rw[Z1z ht4];refine vQ ?_;refine Jm rfl ?_;refine JO.callPK (Lr:=[_]) (ih ts.tail (ZH hts) (ZG ht4).2) rfl (.refl _) qF qA (fun hbad=>?_) ?_
 · exact JX.pnI (by rw[Zbu ht4,hbad];rfl)
 intro z hz;refine vD ?_;refine JO.openA (s:=6) rfl (fun a6 l6 q6 b6_ o6_ _ _=>?_);refine Jq (ZI (cs:=[_,_,_,_,_,_,_,_]) Zy qM qM (.cons rfl .nil) rfl rfl rfl) ?_;refine JO.callK (Lr:=[_,_]) ((Z2R 3 [z.1]).toL (L0:=[]) (Φ0:=[]) (Zp:=fun _:Unit=>True) (L1:=fun _=>[]) (R:=fun _=>.rep (ExR (nd 3 [z.1]))) () trivial rfl (fun _ _ _ h=>h)) rfl (Z2a _) Z1Z (.one rfl (.sub rfl (Sub.newExs [XC.mk' (z.1) (z.1).K (z.1).VK (z.1).VN (z.1).VS (z.1).TB (z.1).NM (z.1).SL a6 l6 q6] rfl (fun p hp=>by rw[List.mem_singleton]at hp;subst hp;(repeat first|exact yh|apply yx))) .nil)) ?_;intro _ _;refine vD ?_;refine JO.m (Z2 rfl rfl qU qC qO Zc) (by rfl) ?_;refine vS [2] ?_;refine vR ?_;refine JX.toP ?_;exact JX.retLCs (Lr:=[_]) rfl (nd 3 [z.1],z.2) (by rw[Zbu ht4,hz];rfl) (.refl _) rfl rfl hb0 rfl Z8 HasOwn.mem Z1E (Sub.refl _);apply yK
 repeat first|apply yX|apply yB
 rw[Z21 ht4];refine vQ ?_;refine Jm rfl ?_;refine JO.callPK (Lr:=[_]) (hat) rfl (.refl _) qF qA (fun hbad=>?_) ?_
 · exact JX.pnI (by rw[ZbN ht4,hbad])
 intro z hz;refine vD ?_;refine JO.m (Z2 rfl rfl qU qC qO Zc) (by rfl) ?_;refine vS [2] ?_;refine vR ?_;refine JX.toP ?_;exact JX.retLCs (Lr:=[_]) rfl z (by rw[ZbN ht4,hz]) (.refl _) rfl rfl hb0 rfl Z8 HasOwn.mem Z1E (Sub.refl _)
theorem Z4I(T:Tk)(hc:T.ts.length<=T.cap)(b:Nat)(e:Ps Ex)(N:Nat)(hat: ∀ts,ts<:+T.ts->ts.length<=N->CallP Tryz.prog Z2S [PB T b (ts)] [T.G,AF] [.is (.pointer (some ⟨b,0,none⟩))] (atomP e (ts)=none) flt (fun z:Ex×List T3=>atomP e (ts)=some z) (fun z=>[PB T b z.2]) (fun z=>.rep (ExR z.1))): ∀n ts,ts<:+T.ts->ts.length<=N->ts.length<=n->CallP Tryz.prog Z1Y [PB T b (ts)] [T.G,AF] [.is (.pointer (some ⟨b,0,none⟩))] (factorP e (ts)=none) flt (fun z:Ex×List T3=>factorP e (ts)=some z) (fun z=>[PB T b z.2]) (fun z=>.rep (ExR z.1))
 |n,ts,hts,hN,hn=>Z66 T hc b ts hts e (hat ts hts hN) fun us hus hl=>by
  cases n with
  |zero=>omega
  |succ n=>exact Z4I T hc b e N hat n us hus qM qM
theorem ZfF(s:ByteArray)(h:Lib.fields s.data.toList=[s.data.toList])(hs:s.size<4294967281)(ha: ∀(j:Nat) (b:UInt8),s.data.toList[j]? =some b->b.toNat<128):CallF Tryz.prog Z6T [AF] [.is (.string s)] (.newSl (.cells ([Value.string s]:List Value).toArray 9 (0,0)) 1 1):=by
 have h1:=Zao s hs ha;rw[h]at h1;have e:(⟨s.data.toList.toArray⟩:ByteArray)=s:=by rw[Array.toArray_toList]
 simp only[List.map_cons,List.map_nil,e]at h1;exact h1
abbrev wd(i:Nat)(s:ByteArray)(ts:List T3):List T3:=if i=0 then ts else ts.tail
theorem ZA(T:Tk)(hc:T.ts.length<=T.cap)(b:Nat)(ts:List T3)(hts:ts<:+T.ts)(s:ByteArray)(h:Lib.fields s.data.toList=[s.data.toList])(hs:s.size<4294967281)(ha: ∀(j:Nat) (b:UInt8),s.data.toList[j]? =some b->b.toNat<128):CallP Tryz.prog Z7N [PB T b ts] [T.G,AF] [.is (.pointer (some ⟨b,0,none⟩)),.is (.string s)] (wantP 1 s ts=none) flt (fun z:Unit×List T3=>wantP 1 s ts=some z) (fun z=>[PB T b z.2]) (fun _=>.is (.tuple #[])):=
CallP.of (fn:=Tryz.f108) Tryz.func108 (n:=19) rfl rfl rfl (fun _ _=>by kernel_rfl) fun E W hb0=>by
 refine vQ ?_;refine Jm rfl (Jq (Z43 rfl (ZfF s h hs ha) (by simp) qA) ?_);refine JO.openNew (s:=7) rfl (fun r7=>?_);refine Jq (ZD Z1K rfl) (Jm rfl (vS [0,7,8,9] ?_));apply yk
 repeat apply yQ
 refine J.loopG (α:=Nat) (fun i=>[(0,.is (.pointer (some ⟨b,0,none⟩))),(7,.is (.slice (some ⟨r7,0,none⟩) 1 1)),(8,.is (.int .i64 1)),(9,.is (.int .i64 (i:Int)))]) (fun i=>[PB T b (wd i s ts)]) (fun i=>fun _=>True) (fun i=>i<=1/\(i=1->isT 1 s ts=true)) (fun i=>1-i) 0 [0,7,8,9] (.cons rfl (.cons rfl (.cons rfl (.cons rfl .nil)))) rfl (fun _=>trivial) ⟨by omega,by omega⟩ fun i ⟨hi,hT⟩=>?_;refine vQ ?_;refine Jq (Z10 rfl rfl) (vS [0,7,8,9,10] ?_);refine yC rfl (fun ht10=>?_) (fun ht10=>?_)
 try simp only[yd,yf]at ht10
 apply yK;refine vN ?_;apply yk;obtain rfl:i=0:=by omega
 rw[show wd 0 s ts=ts from rfl];refine vQ ?_;refine Jq (Zi Z3m rfl rfl rfl qM qM) ?_;refine Jq (Z83 (cs:=[Value.string s]) Zr rfl qI rfl) ?_;refine Ja rfl (vP [0,5,7,8,9] ?_);refine Jm rfl (Jm rfl (Jm rfl (JO.callK (Lr:=[]) (Zu T hc b ts hts s) rfl (.refl _) (Z6S qI) qA ?_)));intro z hz;refine JO.callPK (Lr:=_) (Zt (.pointer (some ⟨b,0,none⟩)) (isT 1 s ts)) rfl (Z2a _) Z1Z qA (fun hbad=>?_) ?_
 · exact JX.pnI (by unfold wantP;rw[hbad];rfl)
 intro z hz;refine vD ?_;refine vS [0,7,8,9] ?_;rw[show skT 1 s ts=wd 1 s ts by unfold skT;rw[hz];rfl];refine vQ ?_;refine Jq (Zv (cc:=1) rfl rfl qM qM qM) ?_;refine Jm rfl ?_;apply yI
 repeat refine JX.normal_block ?_
 refine JX.roundG (x:=0) 1 ?_ ?_ [0,7,8,9] ?_ ?_ ?_ ?_
 · exact⟨by omega,fun _=>hz⟩
 · exact qM
 · exact qS
 · exact qH
 · exact qG
 · exact fun _ _ _=>fun _ _=>trivial
 try simp only[yd,yf]at ht10
 repeat apply yQ
 refine J.exit ?_
 repeat first|refine yH ?_|refine yM rfl ?_|refine yE ?_
 repeat first|apply yX|apply yB
 refine JX.normal_ret ?_;refine JX.toP ?_;obtain rfl:i=1:=by omega
 exact JX.retL0 rfl ((),ts.tail) (by unfold wantP;rw[hT rfl];rfl) (.refl _) rfl hb0 rfl
abbrev srcV(s:Pz.Src):Value:=.agg #[.string s.tb,.string s.nm,.slice none 0 0]
theorem ZdN(z:List T3):(isT 1 w_AS z||(decide ((0:Int)<(((skT 1 w_AS z).length:Nat):Int))&&(((skT 1 w_AS z).headD t3D).k==2)))=(isT 1 w_AS z||isK 2 z):=by
 rw[Z6L];cases h:isT 1 w_AS z with
 |true=>rfl
 |false=>rw[Z21 h]
theorem Zdf{ts:List T3}{z:ByteArray×List T3}(hz:nameP ts=some z)(h:(isT 1 w_AS z.2||isK 2 z.2)=true):sourceP ts=(nameP (skT 1 w_AS z.2)).map fun m=>(⟨z.1,m.1,[]⟩,m.2):=by
 unfold sourceP;rw[hz,Option.bind_some];cases ha:isT 1 w_AS z.2 with
 |true=>rw[if_pos rfl,Z1z ha]
 |false=>
   rw[ha,Bool.false_or]at h;rw[if_neg qD,if_pos h,Z21 ha]
theorem Zgg{ts:List T3}{z:ByteArray×List T3}(hz:nameP ts=some z)(h:(isT 1 w_AS z.2||isK 2 z.2)=false):sourceP ts=some (⟨z.1,z.1,[]⟩,skT 1 w_AS z.2):=by
 unfold sourceP;rw[Bool.or_eq_false_iff]at h;rw[hz,Option.bind_some,if_neg (by rw[h.1];decide),if_neg (by rw[h.2];decide),Z21 h.1]
theorem Z4J(T:Tk)(hc:T.ts.length<=T.cap)(b:Nat)(ts:List T3)(hts:ts<:+T.ts):CallP Tryz.prog Z7n [PB T b ts] [T.G] [.is (.pointer (some ⟨b,0,none⟩))] (sourceP ts=none) flt (fun z:Pz.Src×List T3=>sourceP ts=some z) (fun z=>[PB T b z.2]) (fun z=>.is (srcV z.1)):=
CallP.of (fn:=Tryz.f116) Tryz.func116 (n:=34) rfl rfl rfl (fun _ _=>by kernel_rfl) fun E W hb0=>by
 refine vQ ?_;refine JO.alloc Z30 rfl fun b2=>(vP [0,2] ?_);refine Jm rfl ?_;refine JO.callPK (Lr:=[_]) (ZS T hc b ts hts) rfl (.swap _ _ _) (Z6S qI) qA (fun hbad=>?_) ?_
 · exact JX.pnI (by unfold sourceP;rw[hbad];rfl)
 intro z hz;refine vD ?_;have hz2:z.2<:+T.ts:=(ZV _ _ hz).1.trans hts;refine Ja rfl (vP [0,2,3] ?_);refine Jm rfl (Jm rfl (Jq (Zd (cs:=[_,_,_]) Z9n (.cons rfl (.cons rfl .nil)) rfl rfl) (JO.alloc Z30 rfl fun b4=>(JO.m (Z2 rfl rfl qU qC qO Z2q) (by rfl) ?_))));refine vP [0,2,4] ?_;refine Jm rfl (JO.callK (Lr:=[_,_]) (Zu T hc b z.2 hz2 w_AS) rfl (.swap _ _ _) (Z6S qI) qA ?_);intro _ _;refine vD ?_;have hu:skT 1 w_AS z.2<:+T.ts:=(Z2o _ _ _).trans hz2;refine Jm rfl (JO.tg rfl rfl rfl rfl rfl (fun hg=>Z1 (.inl rfl)) (JO.tg rfl rfl rfl rfl rfl (fun hg=>Z4 (qR rfl)) ?_));refine JO.tg rfl rfl rfl rfl rfl (fun hg=>Z0 Zq (qR rfl)) ?_;refine JO.tg rfl rfl rfl rfl rfl (fun hg=>Z5 ZC (qR rfl) rfl) ?_;refine JO.tg rfl rfl rfl rfl rfl (fun hg=>ZD ZR (qR rfl)) ?_;refine JO.tg rfl rfl rfl rfl rfl (fun hg=>Z1r (qR rfl) (.inl rfl)) ?_;refine JO.tg rfl rfl rfl rfl rfl (fun hg=>Z1 (qR rfl)) ?_;refine JO.tgg rfl rfl rfl rfl rfl (fun hg=>Z1 (.inl rfl)) (JO.tgg rfl rfl rfl rfl rfl (fun hg=>Z4 (qR rfl)) ?_);refine JO.tgg rfl rfl rfl rfl rfl (fun hg=>Z0 Zq (qR rfl)) ?_;refine JO.tgg rfl rfl rfl rfl rfl (fun hg=>Z5 ZC (qR rfl) rfl) ?_;refine JO.tgg rfl rfl rfl rfl rfl (fun hg=>Zi Z1f (qR rfl) rfl (.inl rfl) qM (Z2T (Z3b hg.2))) ?_;refine JO.tgg rfl rfl rfl rfl rfl (fun hg=>Z0 Z1i (qR rfl)) ?_;refine JO.tgg rfl rfl rfl rfl rfl (fun hg=>Z17 (enc:=T3.cells) (sz:=3) (i:=T.k (skT 1 w_AS z.2)) (j:=0) (y:=(skT 1 w_AS z.2).headD t3D) (u:=.int .i64 ((skT 1 w_AS z.2).headD t3D).k) Zx (qR rfl) qI rfl (Tk.head hu (Z3b hg.2)) (by rw[Tk.j_eq hc hu (Z3b hg.2)];omega) rfl) ?_;refine JO.tgg rfl rfl rfl rfl rfl (fun hg=>ZP (qR rfl) (.inl rfl)) ?_;refine JO.tg rfl rfl rfl rfl rfl (fun hg=>Zl (qR rfl) (.inl rfl) (.inl rfl) (fun h=>⟨hg,h⟩)) ?_;refine Jq (Zw rfl rfl rfl id) (vS [0,2,4,29] ?_);refine yC rfl (fun ht29=>?_) (fun ht29=>?_);have hv:(isT 1 w_AS z.2||isK 2 z.2)=true:=by rw[<-ZdN];exact ht29
 refine vQ ?_;refine Jm rfl ?_;refine JO.callPK (Lr:=[_,_]) (ZS T hc b (skT 1 w_AS z.2) hu) rfl (.refl _) (Z6S qI) qA (fun hbad=>?_) ?_
 · exact JX.pnI (by rw[Zdf hz hv,hbad];rfl)
 intro y hy;refine vD ?_;refine Jq (Z0 Z4g rfl) (JO.m (Z9 (cs':=[_,_,_]) rfl rfl qU rfl rfl rfl rfl Z2Q) (by rfl) ?_);refine vP [2,4] ?_;refine Jq (ZU (cs:=[_,_,_]) Z24 rfl rfl rfl) (JO.m (Z2 rfl rfl qU qC qO Z2q) (by rfl) ?_);refine vS [2] ?_;refine vR ?_;refine JX.toP ?_;exact JX.retLC (Lr:=[_,_]) rfl (⟨z.1,y.1,[]⟩,y.2) (by rw[Zdf hz hv,hy];rfl) (.refl _) rfl hb0 rfl Z24 HasOwn.mem rfl rfl;apply yK;refine vN ?_;apply yN;refine Jq (ZU (cs:=[_,_,_]) Z24 rfl rfl rfl) (JO.m (Z2 rfl rfl qU qC qO Z2q) (by rfl) ?_);refine vS [2] ?_;refine vR ?_;refine JX.toP ?_;have hv:(isT 1 w_AS z.2||isK 2 z.2)=false:=by rw[<-ZdN];exact ht29
 exact JX.retLC (Lr:=[_,_]) rfl (⟨z.1,z.1,[]⟩,skT 1 w_AS z.2) (Zgg hz hv) (.refl _) rfl hb0 rfl Z24 HasOwn.mem rfl rfl
end Go.Proofs.YtbedigkncjbggaaGreatDoor
namespace Go.Pz
open Go Go.Vc
def okT(t:T3):Prop:=1<=t.k/\t.k<=5/\(t.k=5->t.n=0/\t.t.data.toList.length<=2)
def okL(ts:List T3):Prop:=∀t∈ts,okT t
theorem okL.suf{r ts:List T3}(h:okL ts)(hs:r<:+ts):okL r:=fun t ht=>h t (hs.subset ht)
theorem okL.tail{ts:List T3}(h:okL ts):okL ts.tail:=h.suf (List.tail_suffix ts)
abbrev binL:List (Int×ByteArray×Int×Int):=[(1,w_OR,17,1),(1,Z1U,16,2),(5,s_eq,10,4),(5,s_ne,11,4),(5,s_lt,12,4),(5,s_le,13,4),(5,s_gt,14,4),(5,s_ge,15,4),(5,Z2O,5,5),(5,Z1s,6,5),(5,Z1g,7,6),(5,Z2x,8,6),(5,Z3x,9,6)]
def binG:List (Int×ByteArray×Int×Int)->List T3->Int×Int
 |[],_=>(0,0)
 |(k,s,q,b)::l,ts=>if isT k s ts then(q,b)else binG l ts
def binR(ts:List T3):Int×Int:=binG binL ts
def factorR(e:Ps Ex):Ps Ex
 |[]=>none
 |t::r=>
   if isT 5 Z1s (t::r)then(factorR e r).map fun z=>(nd 3 [z.1],z.2)
   else if t.k==0 then none
   else if t.k==3 then some (lit 1 t.n em,r)
   else if t.k==4 then some (lit 3 0 t.t,r)
   else if t.k==2 then(if isT 5 Z6z r then(nameP r.tail).map fun z=>(.mk 2 0 0 em t.t z.1 0 [],z.2)else some (.mk 2 0 0 em em t.t 0 [],r))
   else if sq t.t Z87 then some (lit 2 1 em,r)
   else if sq t.t Z6J then some (lit 2 0 em,r)
   else if sq t.t Z1M then some (lit 0 0 em,r)
   else if(t.k==5)&&sq t.t s_lp then(e r).bind fun x=>(wantP 5 s_rp x.2).map fun v=>(x.1,v.2)
   else match aggK t.t with
     |none=>none
     |some q=>(wantP 5 s_lp r).bind fun y=>
       if q==20&&isT 5 Z1g y.2 then(wantP 5 s_rp y.2.tail).map fun v=>(nd 20 [],v.2)
       else(e y.2).bind fun x=>(wantP 5 s_rp x.2).map fun v=>(nd q [x.1],v.2)
def loopR(e:Int->Ps Ex)(least:Int):Nat->Ex->Bool->Ps Ex
 |0,x,_,ts=>some (x,ts)
 |m+1,x,c,ts=>
   if(decide (0<(binR ts).1)&&decide (least<(binR ts).2))&& !(c&&decide (4<=(binR ts).2))then(e (binR ts).2 ts.tail).bind fun z=>loopR e least m (nd (binR ts).1 [x,z.1]) (c||decide ((binR ts).2<=4)) z.2
   else if(((binR ts).1==0&&decide (least<4))&& !c)&&isT 1 w_IS ts then(wantP 1 Z1M (skT 1 Z1d ts.tail)).bind fun v=>loopR e least m (nd (if isT 1 Z1d ts.tail then 19 else 18) [x]) true v.2
   else some (x,ts)
def exprR:Nat->Int->Ps Ex
 |0,_=>fun _=>none
 |n+1,l=>fun ts=>if decide (l<3)&&isT 1 Z1d ts then(exprR n 2 ts.tail).bind fun z=>loopR (exprR n) l z.2.length (nd 4 [z.1]) true z.2 else(factorR (exprR n 0) ts).bind fun z=>loopR (exprR n) l z.2.length z.1 false z.2
theorem Z6{k k':Int}{s s':ByteArray}{ts:List T3}(h:isT k s ts=true)(hne:(k==k'&&(s.data.toList==s'.data.toList))=false):isT k' s' ts=false:=by
 obtain⟨t,r,rfl,h1,h2⟩:=Z5a h;show((t.k==k')&&(t.t.data.toList==s'.data.toList))=false;rw[h1,h2];exact hne
inductive Cls (ts:List T3):Prop where
 |or (h:binR ts=(17,1)) (h1:isT 1 w_OR ts=true) (h2:opOf 1 [(Z1U,16)] ts=none) (h3:opOf 5 cmpO ts=none) (h4:opOf 5 addO ts=none) (h5:opOf 5 mulO ts=none) (h6:isT 1 w_IS ts=false) (h7:opOf 1 [(w_OR,17)] ts=some 17)
 |and (h:binR ts=(16,2)) (h1:opOf 1 [(w_OR,17)] ts=none) (h2:opOf 1 [(Z1U,16)] ts=some 16) (h3:opOf 5 cmpO ts=none) (h4:opOf 5 addO ts=none) (h5:opOf 5 mulO ts=none) (h6:isT 1 w_IS ts=false)
 |cmp (q:Int) (hq:0<q) (h:binR ts=(q,4)) (h1:opOf 1 [(w_OR,17)] ts=none) (h2:opOf 1 [(Z1U,16)] ts=none) (h3:opOf 5 cmpO ts=some q) (h4:opOf 5 addO ts=none) (h5:opOf 5 mulO ts=none) (h6:isT 1 w_IS ts=false)
 |add (q:Int) (hq:0<q) (h:binR ts=(q,5)) (h1:opOf 1 [(w_OR,17)] ts=none) (h2:opOf 1 [(Z1U,16)] ts=none) (h3:opOf 5 cmpO ts=none) (h4:opOf 5 addO ts=some q) (h5:opOf 5 mulO ts=none) (h6:isT 1 w_IS ts=false)
 |mul (q:Int) (hq:0<q) (h:binR ts=(q,6)) (h1:opOf 1 [(w_OR,17)] ts=none) (h2:opOf 1 [(Z1U,16)] ts=none) (h3:opOf 5 cmpO ts=none) (h4:opOf 5 addO ts=none) (h5:opOf 5 mulO ts=some q) (h6:isT 1 w_IS ts=false)
 |no (h:binR ts=(0,0)) (h1:opOf 1 [(w_OR,17)] ts=none) (h2:opOf 1 [(Z1U,16)] ts=none) (h3:opOf 5 cmpO ts=none) (h4:opOf 5 addO ts=none) (h5:opOf 5 mulO ts=none)
theorem cls(ts:List T3):Cls ts:=by
 cases h0:isT 1 w_OR ts with
 |true=>
   have n_w_AND:isT 1 Z1U ts=false:=Z6 h0 qD;have n_s_eq:isT 5 s_eq ts=false:=Z6 h0 qD;have n_s_ne:isT 5 s_ne ts=false:=Z6 h0 qD;have n_s_lt:isT 5 s_lt ts=false:=Z6 h0 qD;have n_s_le:isT 5 s_le ts=false:=Z6 h0 qD;have n_s_gt:isT 5 s_gt ts=false:=Z6 h0 qD;have n_s_ge:isT 5 s_ge ts=false:=Z6 h0 qD;have n_s_plus:isT 5 Z2O ts=false:=Z6 h0 qD;have n_s_minus:isT 5 Z1s ts=false:=Z6 h0 qD;have n_s_star:isT 5 Z1g ts=false:=Z6 h0 qD;have n_s_slash:isT 5 Z2x ts=false:=Z6 h0 qD;have n_s_pct:isT 5 Z3x ts=false:=Z6 h0 qD;have n_w_IS:isT 1 w_IS ts=false:=Z6 h0 qD;exact .or qX h0 qX qX qX qX n_w_IS qX
 |false=>
 cases h1:isT 1 Z1U ts with
 |true=>
   have n_w_OR:isT 1 w_OR ts=false:=Z6 h1 qD;have n_s_eq:isT 5 s_eq ts=false:=Z6 h1 qD;have n_s_ne:isT 5 s_ne ts=false:=Z6 h1 qD;have n_s_lt:isT 5 s_lt ts=false:=Z6 h1 qD;have n_s_le:isT 5 s_le ts=false:=Z6 h1 qD;have n_s_gt:isT 5 s_gt ts=false:=Z6 h1 qD;have n_s_ge:isT 5 s_ge ts=false:=Z6 h1 qD;have n_s_plus:isT 5 Z2O ts=false:=Z6 h1 qD;have n_s_minus:isT 5 Z1s ts=false:=Z6 h1 qD;have n_s_star:isT 5 Z1g ts=false:=Z6 h1 qD;have n_s_slash:isT 5 Z2x ts=false:=Z6 h1 qD;have n_s_pct:isT 5 Z3x ts=false:=Z6 h1 qD;have n_w_IS:isT 1 w_IS ts=false:=Z6 h1 qD;exact .and qX qX qX qX qX qX n_w_IS
 |false=>
 cases c0:isT 5 s_eq ts with
 |true=>
   have n_w_OR:isT 1 w_OR ts=false:=Z6 c0 qD;have n_w_AND:isT 1 Z1U ts=false:=Z6 c0 qD;have n_s_ne:isT 5 s_ne ts=false:=Z6 c0 qD;have n_s_lt:isT 5 s_lt ts=false:=Z6 c0 qD;have n_s_le:isT 5 s_le ts=false:=Z6 c0 qD;have n_s_gt:isT 5 s_gt ts=false:=Z6 c0 qD;have n_s_ge:isT 5 s_ge ts=false:=Z6 c0 qD;have n_s_plus:isT 5 Z2O ts=false:=Z6 c0 qD;have n_s_minus:isT 5 Z1s ts=false:=Z6 c0 qD;have n_s_star:isT 5 Z1g ts=false:=Z6 c0 qD;have n_s_slash:isT 5 Z2x ts=false:=Z6 c0 qD;have n_s_pct:isT 5 Z3x ts=false:=Z6 c0 qD;have n_w_IS:isT 1 w_IS ts=false:=Z6 c0 qD;exact .cmp 10 qD qX qX qX qX qX qX n_w_IS
 |false=>
 cases c1:isT 5 s_ne ts with
 |true=>
   have n_w_OR:isT 1 w_OR ts=false:=Z6 c1 qD;have n_w_AND:isT 1 Z1U ts=false:=Z6 c1 qD;have n_s_eq:isT 5 s_eq ts=false:=Z6 c1 qD;have n_s_lt:isT 5 s_lt ts=false:=Z6 c1 qD;have n_s_le:isT 5 s_le ts=false:=Z6 c1 qD;have n_s_gt:isT 5 s_gt ts=false:=Z6 c1 qD;have n_s_ge:isT 5 s_ge ts=false:=Z6 c1 qD;have n_s_plus:isT 5 Z2O ts=false:=Z6 c1 qD;have n_s_minus:isT 5 Z1s ts=false:=Z6 c1 qD;have n_s_star:isT 5 Z1g ts=false:=Z6 c1 qD;have n_s_slash:isT 5 Z2x ts=false:=Z6 c1 qD;have n_s_pct:isT 5 Z3x ts=false:=Z6 c1 qD;have n_w_IS:isT 1 w_IS ts=false:=Z6 c1 qD;exact .cmp 11 qD qX qX qX qX qX qX n_w_IS
 |false=>
 cases c2:isT 5 s_lt ts with
 |true=>
   have n_w_OR:isT 1 w_OR ts=false:=Z6 c2 qD;have n_w_AND:isT 1 Z1U ts=false:=Z6 c2 qD;have n_s_eq:isT 5 s_eq ts=false:=Z6 c2 qD;have n_s_ne:isT 5 s_ne ts=false:=Z6 c2 qD;have n_s_le:isT 5 s_le ts=false:=Z6 c2 qD;have n_s_gt:isT 5 s_gt ts=false:=Z6 c2 qD;have n_s_ge:isT 5 s_ge ts=false:=Z6 c2 qD;have n_s_plus:isT 5 Z2O ts=false:=Z6 c2 qD;have n_s_minus:isT 5 Z1s ts=false:=Z6 c2 qD;have n_s_star:isT 5 Z1g ts=false:=Z6 c2 qD;have n_s_slash:isT 5 Z2x ts=false:=Z6 c2 qD;have n_s_pct:isT 5 Z3x ts=false:=Z6 c2 qD;have n_w_IS:isT 1 w_IS ts=false:=Z6 c2 qD;exact .cmp 12 qD qX qX qX qX qX qX n_w_IS
 |false=>
 cases c3:isT 5 s_le ts with
 |true=>
   have n_w_OR:isT 1 w_OR ts=false:=Z6 c3 qD;have n_w_AND:isT 1 Z1U ts=false:=Z6 c3 qD;have n_s_eq:isT 5 s_eq ts=false:=Z6 c3 qD;have n_s_ne:isT 5 s_ne ts=false:=Z6 c3 qD;have n_s_lt:isT 5 s_lt ts=false:=Z6 c3 qD;have n_s_gt:isT 5 s_gt ts=false:=Z6 c3 qD;have n_s_ge:isT 5 s_ge ts=false:=Z6 c3 qD;have n_s_plus:isT 5 Z2O ts=false:=Z6 c3 qD;have n_s_minus:isT 5 Z1s ts=false:=Z6 c3 qD;have n_s_star:isT 5 Z1g ts=false:=Z6 c3 qD;have n_s_slash:isT 5 Z2x ts=false:=Z6 c3 qD;have n_s_pct:isT 5 Z3x ts=false:=Z6 c3 qD;have n_w_IS:isT 1 w_IS ts=false:=Z6 c3 qD;exact .cmp 13 qD qX qX qX qX qX qX n_w_IS
 |false=>
 cases c4:isT 5 s_gt ts with
 |true=>
   have n_w_OR:isT 1 w_OR ts=false:=Z6 c4 qD;have n_w_AND:isT 1 Z1U ts=false:=Z6 c4 qD;have n_s_eq:isT 5 s_eq ts=false:=Z6 c4 qD;have n_s_ne:isT 5 s_ne ts=false:=Z6 c4 qD;have n_s_lt:isT 5 s_lt ts=false:=Z6 c4 qD;have n_s_le:isT 5 s_le ts=false:=Z6 c4 qD;have n_s_ge:isT 5 s_ge ts=false:=Z6 c4 qD;have n_s_plus:isT 5 Z2O ts=false:=Z6 c4 qD;have n_s_minus:isT 5 Z1s ts=false:=Z6 c4 qD;have n_s_star:isT 5 Z1g ts=false:=Z6 c4 qD;have n_s_slash:isT 5 Z2x ts=false:=Z6 c4 qD;have n_s_pct:isT 5 Z3x ts=false:=Z6 c4 qD;have n_w_IS:isT 1 w_IS ts=false:=Z6 c4 qD;exact .cmp 14 qD qX qX qX qX qX qX n_w_IS
 |false=>
 cases c5:isT 5 s_ge ts with
 |true=>
   have n_w_OR:isT 1 w_OR ts=false:=Z6 c5 qD;have n_w_AND:isT 1 Z1U ts=false:=Z6 c5 qD;have n_s_eq:isT 5 s_eq ts=false:=Z6 c5 qD;have n_s_ne:isT 5 s_ne ts=false:=Z6 c5 qD;have n_s_lt:isT 5 s_lt ts=false:=Z6 c5 qD;have n_s_le:isT 5 s_le ts=false:=Z6 c5 qD;have n_s_gt:isT 5 s_gt ts=false:=Z6 c5 qD;have n_s_plus:isT 5 Z2O ts=false:=Z6 c5 qD;have n_s_minus:isT 5 Z1s ts=false:=Z6 c5 qD;have n_s_star:isT 5 Z1g ts=false:=Z6 c5 qD;have n_s_slash:isT 5 Z2x ts=false:=Z6 c5 qD;have n_s_pct:isT 5 Z3x ts=false:=Z6 c5 qD;have n_w_IS:isT 1 w_IS ts=false:=Z6 c5 qD;exact .cmp 15 qD qX qX qX qX qX qX n_w_IS
 |false=>
 cases a0:isT 5 Z2O ts with
 |true=>
   have n_w_OR:isT 1 w_OR ts=false:=Z6 a0 qD;have n_w_AND:isT 1 Z1U ts=false:=Z6 a0 qD;have n_s_eq:isT 5 s_eq ts=false:=Z6 a0 qD;have n_s_ne:isT 5 s_ne ts=false:=Z6 a0 qD;have n_s_lt:isT 5 s_lt ts=false:=Z6 a0 qD;have n_s_le:isT 5 s_le ts=false:=Z6 a0 qD;have n_s_gt:isT 5 s_gt ts=false:=Z6 a0 qD;have n_s_ge:isT 5 s_ge ts=false:=Z6 a0 qD;have n_s_minus:isT 5 Z1s ts=false:=Z6 a0 qD;have n_s_star:isT 5 Z1g ts=false:=Z6 a0 qD;have n_s_slash:isT 5 Z2x ts=false:=Z6 a0 qD;have n_s_pct:isT 5 Z3x ts=false:=Z6 a0 qD;have n_w_IS:isT 1 w_IS ts=false:=Z6 a0 qD;exact .add 5 qD qX qX qX qX qX qX n_w_IS
 |false=>
 cases a1:isT 5 Z1s ts with
 |true=>
   have n_w_OR:isT 1 w_OR ts=false:=Z6 a1 qD;have n_w_AND:isT 1 Z1U ts=false:=Z6 a1 qD;have n_s_eq:isT 5 s_eq ts=false:=Z6 a1 qD;have n_s_ne:isT 5 s_ne ts=false:=Z6 a1 qD;have n_s_lt:isT 5 s_lt ts=false:=Z6 a1 qD;have n_s_le:isT 5 s_le ts=false:=Z6 a1 qD;have n_s_gt:isT 5 s_gt ts=false:=Z6 a1 qD;have n_s_ge:isT 5 s_ge ts=false:=Z6 a1 qD;have n_s_plus:isT 5 Z2O ts=false:=Z6 a1 qD;have n_s_star:isT 5 Z1g ts=false:=Z6 a1 qD;have n_s_slash:isT 5 Z2x ts=false:=Z6 a1 qD;have n_s_pct:isT 5 Z3x ts=false:=Z6 a1 qD;have n_w_IS:isT 1 w_IS ts=false:=Z6 a1 qD;exact .add 6 qD qX qX qX qX qX qX n_w_IS
 |false=>
 cases m0:isT 5 Z1g ts with
 |true=>
   have n_w_OR:isT 1 w_OR ts=false:=Z6 m0 qD;have n_w_AND:isT 1 Z1U ts=false:=Z6 m0 qD;have n_s_eq:isT 5 s_eq ts=false:=Z6 m0 qD;have n_s_ne:isT 5 s_ne ts=false:=Z6 m0 qD;have n_s_lt:isT 5 s_lt ts=false:=Z6 m0 qD;have n_s_le:isT 5 s_le ts=false:=Z6 m0 qD;have n_s_gt:isT 5 s_gt ts=false:=Z6 m0 qD;have n_s_ge:isT 5 s_ge ts=false:=Z6 m0 qD;have n_s_plus:isT 5 Z2O ts=false:=Z6 m0 qD;have n_s_minus:isT 5 Z1s ts=false:=Z6 m0 qD;have n_s_slash:isT 5 Z2x ts=false:=Z6 m0 qD;have n_s_pct:isT 5 Z3x ts=false:=Z6 m0 qD;have n_w_IS:isT 1 w_IS ts=false:=Z6 m0 qD;exact .mul 7 qD qX qX qX qX qX qX n_w_IS
 |false=>
 cases m1:isT 5 Z2x ts with
 |true=>
   have n_w_OR:isT 1 w_OR ts=false:=Z6 m1 qD;have n_w_AND:isT 1 Z1U ts=false:=Z6 m1 qD;have n_s_eq:isT 5 s_eq ts=false:=Z6 m1 qD;have n_s_ne:isT 5 s_ne ts=false:=Z6 m1 qD;have n_s_lt:isT 5 s_lt ts=false:=Z6 m1 qD;have n_s_le:isT 5 s_le ts=false:=Z6 m1 qD;have n_s_gt:isT 5 s_gt ts=false:=Z6 m1 qD;have n_s_ge:isT 5 s_ge ts=false:=Z6 m1 qD;have n_s_plus:isT 5 Z2O ts=false:=Z6 m1 qD;have n_s_minus:isT 5 Z1s ts=false:=Z6 m1 qD;have n_s_star:isT 5 Z1g ts=false:=Z6 m1 qD;have n_s_pct:isT 5 Z3x ts=false:=Z6 m1 qD;have n_w_IS:isT 1 w_IS ts=false:=Z6 m1 qD;exact .mul 8 qD qX qX qX qX qX qX n_w_IS
 |false=>
 cases m2:isT 5 Z3x ts with
 |true=>
   have n_w_OR:isT 1 w_OR ts=false:=Z6 m2 qD;have n_w_AND:isT 1 Z1U ts=false:=Z6 m2 qD;have n_s_eq:isT 5 s_eq ts=false:=Z6 m2 qD;have n_s_ne:isT 5 s_ne ts=false:=Z6 m2 qD;have n_s_lt:isT 5 s_lt ts=false:=Z6 m2 qD;have n_s_le:isT 5 s_le ts=false:=Z6 m2 qD;have n_s_gt:isT 5 s_gt ts=false:=Z6 m2 qD;have n_s_ge:isT 5 s_ge ts=false:=Z6 m2 qD;have n_s_plus:isT 5 Z2O ts=false:=Z6 m2 qD;have n_s_minus:isT 5 Z1s ts=false:=Z6 m2 qD;have n_s_star:isT 5 Z1g ts=false:=Z6 m2 qD;have n_s_slash:isT 5 Z2x ts=false:=Z6 m2 qD;have n_w_IS:isT 1 w_IS ts=false:=Z6 m2 qD;exact .mul 9 qD qX qX qX qX qX qX n_w_IS
 |false=>
 exact .no qX qX qX qX qX qX
end Go.Pz
namespace Go.Pz
open Go Go.Vc
theorem okL.cons{t:T3}{r:List T3}(h:okL (t::r)):okT t/\okL r:=⟨h t (by simp),fun x hx=>h x (by simp[hx])⟩
theorem Ziu{s t:ByteArray}(h:sq s t=true):s.data.toList.length=t.data.toList.length:=by
 unfold sq at h;rw[beq_iff_eq]at h;rw[h]
theorem Z63{t:T3}(h:okT t)(hk:t.k=5){s:ByteArray}(hs:2<s.data.toList.length):sq t.t s=false:=by
 cases e:sq t.t s with
 |false=>rfl
 |true=>have:=Ziu e;have:=(h.2.2 hk).2;omega
theorem agg20{s:ByteArray}{q:Int}(hq:aggK s=some q):(q==20)=sq s Z2y:=by
 unfold aggK at hq
 by_cases h1:sq s Z2y=true
 · rw[if_pos h1]at hq;injection hq with hq;subst hq;rw[h1];rfl
 · have h1':sq s Z2y=false:=by simpa using h1
   rw[if_neg h1]at hq;rw[h1']
   by_cases h2:sq s Z54=true
   · rw[if_pos h2]at hq;injection hq with hq;subst hq;rfl
   · rw[if_neg h2]at hq
     by_cases h3:sq s Z5x=true
     · rw[if_pos h3]at hq;injection hq with hq;subst hq;rfl
     · rw[if_neg h3]at hq
       by_cases h4:sq s Z6c=true
       · rw[if_pos h4]at hq;injection hq with hq;subst hq;rfl
       · rw[if_neg h4]at hq;cases hq
theorem ZaO{e e':Ps Ex}{N:Nat}(h: ∀ts,okL ts->ts.length<N->e ts=e' ts): ∀ts,okL ts->ts.length<=N->factorR e ts=factorP e' ts
 |[],_,_=>rfl
 |t::r,ho,hl=>by
   have hr:okL r:=ho.cons.2;have ht:=ho.cons.1;have hl':r.length<N:=by simp at hl;omega
   rw[factorR,factorP,ZaO h r hr qM];refine ite_congr rfl (fun _=>rfl) fun hm=>?_;rw[atomP,if_neg (show ¬(t.k==0)=true by have:=ht.1;rw[beq_iff_eq];omega)];refine ite_congr rfl (fun _=>rfl) fun h3=>ite_congr rfl (fun _=>rfl) fun h4=>ite_congr rfl (fun _=>rfl) fun h2=>?_;rw[beq_iff_eq]at h3 h4 h2
   by_cases h1:t.k=1
   · have hk5:(t.k==5)=false:=by rw[h1];rfl
     have htk:takeP 1 (t::r)=some (t,r):=by rw[takeP,h1];rfl
     rw[if_pos (show(t.k==1)=true by rw[h1];rfl),hk5,Bool.false_and,if_neg (show ¬false=true by decide)];unfold kwP;rw[htk,Option.bind_some];refine ite_congr rfl (fun _=>rfl) fun _=>ite_congr rfl (fun _=>rfl) fun _=>ite_congr rfl (fun _=>rfl) fun _=>?_;cases hq:aggK t.t with
     |none=>rfl
     |some q=>
       refine Zm fun y hy=>?_;have hys:=(Zk _ _ _ _ hy);rw[agg20 hq,h y.2 (hr.suf hys.1) (by have:=hys.2;omega)]
   · have h5:t.k=5:=by have:=ht.1;have:=ht.2.1;omega
     have hk5:(t.k==5)=true:=by rw[h5];rfl
     rw[Z63 ht h5 (s:=Z87) qD,Z63 ht h5 (s:=Z6J) qD,Z63 ht h5 (s:=Z1M) qD,if_neg (show ¬(t.k==1)=true by rw[h5];decide)];rw[if_neg (show ¬false=true by decide),if_neg (show ¬false=true by decide),if_neg (show ¬false=true by decide),hk5,Bool.true_and];have hw:wantP 5 s_lp (t::r)=if sq t.t s_lp then some ((),r)else none:=by
       show(if((t.k==5)&&sq t.t s_lp)=true then some ((),r)else none)=_;rw[hk5,Bool.true_and]
     rw[hw]
     by_cases hs:sq t.t s_lp=true
     · rw[if_pos hs,if_pos hs,h r hr hl'];rfl
     · have ha:aggK t.t=none:=by
         unfold aggK;rw[Z63 ht h5 (s:=Z2y) qD,Z63 ht h5 (s:=Z54) qD,Z63 ht h5 (s:=Z5x) qD,Z63 ht h5 (s:=Z6c) qD]
         rfl
       rw[if_neg hs,if_neg hs,ha];rfl
theorem Z7R{part:Ps Ex}{k:Int}{ops:List (ByteArray×Int)}(hp:Dn part): ∀(n m:Nat) (x:Ex) (ts:List T3),ts.length<=n->ts.length<=m->chainG part k ops n x ts=chainG part k ops m x ts
 |0,m,x,ts,h,_=>by
   have:ts=[]:=List.length_eq_zero_iff.1 qM;subst this;cases m with
   |zero=>rfl
   |succ m=>rw[chainG,chainG,show opOf k ops []=none by induction ops with|nil=>rfl|cons a l ih=>obtain⟨s,n⟩:=a;exact ih]
 |n+1,0,x,ts,_,h=>by
   have:ts=[]:=List.length_eq_zero_iff.1 qM;subst this;rw[chainG,chainG,show opOf k ops []=none by induction ops with|nil=>rfl|cons a l ih=>obtain⟨s,n⟩:=a;exact ih]
 |n+1,m+1,x,ts,h,h'=>by
   unfold chainG
   split
   · rfl
   · rename_i q hq
     have h1:=(Z3i hq).2;exact Zm fun y hy=>Z7R hp n m _ _ (by have:=(hp _ _ hy).2;omega) (by have:=(hp _ _ hy).2;omega)
def chainC(part:Ps Ex)(k:Int)(ops:List (ByteArray×Int))(x:Ex):Ps Ex:=fun ts=>chainG part k ops ts.length x ts
theorem Z1L{part:Ps Ex}{k:Int}{ops:List (ByteArray×Int)}{x:Ex}{ts:List T3}(h:opOf k ops ts=none):chainC part k ops x ts=some (x,ts):=by
 unfold chainC;cases ts.length with
 |zero=>rfl
 |succ n=>rw[chainG,h]
theorem Z3A{part:Ps Ex}{k q:Int}{ops:List (ByteArray×Int)}{x:Ex}{ts:List T3}(hp:Dn part)(h:opOf k ops ts=some q):chainC part k ops x ts=(part ts.tail).bind fun z=>chainC part k ops (nd q [x,z.1]) z.2:=by
 have h1:=(Z3i h).2;unfold chainC;rw[Z7R hp _ (ts.length+1) x ts qM qM,chainG,h];exact Zm fun y hy=>Z7R hp _ _ _ _ (by have:=(hp _ _ hy).2;omega) qM
theorem Z91{part:Ps Ex}{k:Int}{ops:List (ByteArray×Int)}(hp:Dn part): ∀(n:Nat) (x:Ex) (ts:List T3) (z:Ex×List T3),ts.length<=n->chainC part k ops x ts=some z->opOf k ops z.2=none
 |n,x,ts,z,hl,h=>by
   cases hq:opOf k ops ts with
   |none=>rw[Z1L hq]at h;injection h with h;subst h;exact hq
   |some q=>
     rw[Z3A hp hq]at h;obtain⟨y,h1,h2⟩:=bnd h;have h3:=(Z3i hq).2;have h4:=(hp _ _ h1).2;cases n with
     |zero=>omega
     |succ n=>exact Z91 hp n _ _ _ qM h2
theorem Z7B{e:Int->Ps Ex}{l:Int}{m:Nat}{x:Ex}{c:Bool}:loopR e l m x c []=some (x,[]):=by
 cases m with
 |zero=>rfl
 |succ m=>simp[loopR,binR,binG,isT]
theorem Z5I{e:Int->Ps Ex}{l:Int}(he: ∀b,Dn (e b)): ∀(n m:Nat) (x:Ex) (c:Bool) (ts:List T3),ts.length<=n->ts.length<=m->loopR e l n x c ts=loopR e l m x c ts
 |0,m,x,c,ts,h,_=>by
   have:ts=[]:=List.length_eq_zero_iff.1 qM;subst this;rw[Z7B,Z7B]
 |n+1,0,x,c,ts,_,h=>by
   have:ts=[]:=List.length_eq_zero_iff.1 qM;subst this;rw[Z7B,Z7B]
 |n+1,m+1,x,c,ts,h,h'=>by
   rw[loopR,loopR]
   split
   · refine Zm fun y hy=>Z5I he n m _ _ _ ?_ ?_<;>(have h1:=(he _ _ _ hy).2;have h2:ts.tail.length<=ts.length:=(List.tail_suffix ts).length_le;simp at h1;omega)
   · split
     · refine Zm fun y hy=>Z5I he n m _ _ _ ?_ ?_<;>(have h1:=(Zk _ _ _ _ hy).2;have h2:=(Z2o 1 Z1d ts.tail).length_le;simp at h2;omega)
     · rfl
def loopC(e:Int->Ps Ex)(l:Int)(x:Ex)(c:Bool):Ps Ex:=fun ts=>loopR e l ts.length x c ts
theorem Z3I{e:Int->Ps Ex}(he: ∀b,Dn (e b))(l:Int)(x:Ex)(c:Bool)(ts:List T3):loopC e l x c ts=
   if(decide (0<(binR ts).1)&&decide (l<(binR ts).2))&& !(c&&decide (4<=(binR ts).2))then(e (binR ts).2 ts.tail).bind fun z=>loopC e l (nd (binR ts).1 [x,z.1]) (c||decide ((binR ts).2<=4)) z.2
   else if(((binR ts).1==0&&decide (l<4))&& !c)&&isT 1 w_IS ts then(wantP 1 Z1M (skT 1 Z1d ts.tail)).bind fun v=>loopC e l (nd (if isT 1 Z1d ts.tail then 19 else 18) [x]) true v.2
   else some (x,ts):=by
 unfold loopC;rw[Z5I he _ (ts.length+1) x c ts qM qM,loopR]
 split
 · refine Zm fun y hy=>Z5I he _ _ _ _ _ ?_ qM
   have h1:=(he _ _ _ hy).2;have h2:ts.tail.length<=ts.length:=(List.tail_suffix ts).length_le;omega
 · split
   · refine Zm fun y hy=>Z5I he _ _ _ _ _ ?_ qM
     have h1:=(Zk _ _ _ _ hy).2;have h2:=(Z2o 1 Z1d ts.tail).length_le;simp at h2;omega
   · rfl
def lev(b:Int):Ps Ex:=if b=0 then orP exprX else if b=1 then andP exprX else if b=2 then notP exprX else if b=4 then sumP exprX else if b=5 then prodP exprX else factorP exprX
theorem Z34(b:Int):Dn (lev b):=by
 have h:=Z5N.le;unfold lev
 repeat' split
 · exact ZfL h
 · exact Z8h h
 · exact Z6H h
 · exact Z3k h
 · exact Z72 h
 · exact Z4B h
theorem bas{α β γ:Type}(p:Option α)(f:α->Option β)(g:β->Option γ):(p.bind f).bind g=p.bind fun x=>(f x).bind g:=Option.bind_assoc p f g
section
theorem fD:Dn (factorP exprX):=Z4B Z5N.le
theorem pD:Dn (prodP exprX):=Z72 Z5N.le
theorem nD:Dn (notP exprX):=Z6H Z5N.le
theorem aD:Dn (andP exprX):=Z8h Z5N.le
theorem loop6(x:Ex)(ts:List T3):(loopC lev) 6 x false ts=some (x,ts):=by
 rw[Z3I Z34];cases cls ts<;>simp_all
theorem loop5: ∀(n:Nat) (x:Ex) (ts:List T3),ts.length<=n->(loopC lev) 5 x false ts=chainC (factorP exprX) 5 mulO x ts
 |n,x,ts,hn=>by
   rw[Z3I Z34];cases cls ts with
   |mul q hq h h1 h2 h3 h4 h5 h6=>
     rw[Z3A fD h5];have hl:=(Z3i h5).2;simp only[h,hq,decide_true,Bool.false_and,Bool.not_false,Bool.and_true,Bool.true_and];rw[if_pos qD];refine Zm fun y hy=>?_;have h7:=(Z34 6 _ _ hy).2;cases n with
     |zero=>omega
     |succ n=>exact loop5 n _ _ qM
   |_=>rw[Z1L ‹opOf 5 mulO ts=none›];simp_all
theorem loop4: ∀(n:Nat) (x:Ex) (ts:List T3),ts.length<=n->(loopC lev) 4 x false ts=(chainC (factorP exprX) 5 mulO x ts).bind fun z=>chainC (prodP exprX) 5 addO z.1 z.2
 |n,x,ts,hn=>by
   rw[Z3I Z34];cases cls ts with
   |mul q hq h h1 h2 h3 h4 h5 h6=>
     rw[Z3A fD h5,bas];have hl:=(Z3i h5).2;simp only[h,hq,decide_true,Bool.false_and,Bool.not_false,Bool.and_true,Bool.true_and];rw[if_pos qD];refine Zm fun y hy=>?_;have h7:=(Z34 6 _ _ hy).2;cases n with
     |zero=>omega
     |succ n=>exact loop4 n _ _ qM
   |add q hq h h1 h2 h3 h4 h5 h6=>
     rw[Z1L h5,Option.bind_some,Z3A pD h4];have hl:=(Z3i h4).2;simp only[h,hq,decide_true,Bool.false_and,Bool.not_false,Bool.and_true,Bool.true_and];rw[if_pos qD];refine Zm fun y hy=>?_;have h7:=(Z34 5 _ _ hy).2;have hy':prodP exprX ts.tail=some y:=hy;obtain⟨u,h8,h9⟩:=bnd (show((factorP exprX ts.tail).bind fun z=>chainC (factorP exprX) 5 mulO z.1 z.2)=some y from hy');have h10:=Z91 fD _ _ _ _ (Nat.le_refl _) h9;cases n with
     |zero=>omega
     |succ n=>
       have:=loop4 n (nd q [x,y.1]) y.2 qM;rw[Z1L h10,Option.bind_some]at this;exact this
   |_=>rw[Z1L ‹opOf 5 mulO ts=none›,Option.bind_some,Z1L ‹opOf 5 addO ts=none›];simp_all
end
end Go.Pz
set_option maxRecDepth 20000
namespace Go.Proofs.YtbedigkncjbggaaGreatDoor
open Go Go.Vc
open Go.Pz
abbrev fv(f:FuncId):Value:=.func (.func f) #[] #[]
theorem Z5o{k:Int}{ops:List (ByteArray×Int)}{i:Nat}(h:i<ops.length)(ts:List T3):opOf k (ops.drop i) ts=if isT k (ops.getD i (em,0)).1 ts then some (ops.getD i (em,0)).2 else opOf k (ops.drop (i+1)) ts:=by
 rw[List.drop_eq_getElem_cons h,List.getD_eq_getElem?_getD,List.getElem?_eq_getElem h]
 rfl
theorem ZiC{ops:List (ByteArray×Int)}{i:Nat}(h:i<ops.length):(ops.map (·.1))[i]? =some (ops.getD i (em,0)).1:=by
 rw[List.getElem?_map,List.getD_eq_getElem?_getD,List.getElem?_eq_getElem h];rfl
theorem ZiJ{ops:List (ByteArray×Int)}{i:Nat}(h:i<ops.length):(ops.map (·.2))[i]? =some (ops.getD i (em,0)).2:=by
 rw[List.getElem?_map,List.getD_eq_getElem?_getD,List.getElem?_eq_getElem h];rfl
def chI(p:Ps Ex)(kd:Int)(ops:List (ByteArray×Int))(ts:List T3)(s:Bool×Ex×List T3):Prop:=if s.1=true then chainP p kd ops ts=chainC p kd ops s.2.1 s.2.2 else chainP p kd ops ts=some (s.2.1,s.2.2)
theorem Z2N(T:Tk)(hc:T.ts.length<=T.cap)(b:Nat)(ts:List T3)(hts:ts<:+T.ts)(p:Ps Ex)(hpd:Dn p)(kd:Int)(ops:List (ByteArray×Int))(h63:ops.length<=9223372036854775806)(fp:FuncId)(hpart: ∀us,us<:+T.ts->us.length<=ts.length->CallP Tryz.prog fp [PB T b (us)] [T.G,AF] [.is (.pointer (some ⟨b,0,none⟩))] (p (us)=none) flt (fun z:Ex×List T3=>p (us)=some z) (fun z=>[PB T b z.2]) (fun z=>.rep (ExR z.1))):CallP Tryz.prog Z7M [PB T b ts] [T.G,AF] [.is (.pointer (some ⟨b,0,none⟩)),.is (fv fp),.is (.int .i64 kd),.rep (SlG sC 1 (ops.map (·.1))),.rep (SlG iC 1 (ops.map (·.2)))] (chainP p kd ops ts=none) flt (fun z:Ex×List T3=>chainP p kd ops ts=some z) (fun z=>[PB T b z.2]) (fun z=>.rep (ExR z.1)):=
CallP.of (fn:=Tryz.f145) Tryz.func145 (n:=42) rfl rfl rfl (fun _ _=>by kernel_rfl) fun E W hb0=>by
 refine J.openSl (s:=3) rfl (fun a3 l3 c3 b3 o3 hl3 ha3=>?_);refine J.openSl (s:=4) rfl (fun a4 l4 c4 b4 o4 hl4 ha4=>?_);rw[List.length_map]at hl3 hl4;subst hl3 hl4;refine vQ ?_;refine JO.alloc Z14 rfl fun b10=>(vP [0,1,2,3,4,10] ?_);refine Jm rfl (Jm rfl ?_);refine JO.callPvK (cp:=[]) (Lr:=[_]) rfl (hpart ts hts (Nat.le_refl _)) rfl (.swap _ _ _) qF (.one rfl .nil) (fun hbad=>?_) ?_
 · exact JX.pnI (by unfold chainP;rw[hbad];rfl)
 intro z1 hz1;refine vD ?_;refine JO.alloc Z14 rfl fun b11=>(JO.m (Z2 rfl rfl qU qC qO Zc) (by rfl) ?_);refine vP [0,1,2,3,4,10,11] ?_;refine Ja rfl (vS [0,1,2,3,4,10,11,12] ?_);apply yk
 repeat apply yQ
 refine J.loopG (α:=Bool×Ex×List T3) (fun s=>[(0,.is (.pointer (some ⟨b,0,none⟩))),(1,.is (fv fp)),(2,.is (.int .i64 kd)),(3,.is (.slice a3 ops.length c3)),(4,.is (.slice a4 ops.length c4)),(10,.is (.pointer (some ⟨b10,0,none⟩))),(11,.is (.pointer (some ⟨b11,0,none⟩))),(12,.is (.bool s.1))]) (fun s=>[⟨b11,Z7,.rep (ExR s.2.1)⟩,PB T b s.2.2,⟨b10,Z7,.is (.agg #[.int .i64 0,.int .i64 0,.int .i64 0,.string ⟨#[]⟩,.string ⟨#[]⟩,.string ⟨#[]⟩,.int .i64 0,.slice none 0 0])⟩]) (fun s=>fun _=>True) (fun s=>s.2.2<:+T.ts/\s.2.2.length<=ts.length/\chI p kd ops ts s) (fun s=>2*s.2.2.length+s.1.toNat) (true,z1.1,z1.2) [0,1,2,3,4,10,11,12] (.cons rfl (.cons rfl (.cons rfl (.cons rfl (.cons rfl (.cons rfl (.cons rfl (.cons rfl .nil)))))))) rfl (fun _=>trivial) ⟨((hpd _ _ hz1).1.trans hts),(hpd _ _ hz1).1.length_le,by unfold chI;rw[if_pos rfl];unfold chainP;rw[hz1];rfl⟩ fun⟨mo,x,us⟩ ⟨hus,hul,hI⟩=>?_;try dsimp only
 try dsimp only at hus
 try dsimp only at hul
 refine vQ ?_;refine Jm rfl (vS [0,1,2,3,4,10,11,18] ?_);refine yC rfl (fun ht18=>?_) (fun ht18=>?_);apply yK;refine vN ?_;apply yk;obtain rfl:mo=true:=ht18;rw[chI,if_pos rfl]at hI;refine vQ ?_;refine Ja rfl (vP [0,1,2,3,4,10,11,12] ?_);refine Jm rfl (Jq (ZD Z1K rfl) (Jm rfl (vS [0,1,2,3,4,10,11,12,19,20,21] ?_)));apply yk
 repeat apply yQ
 refine J.loopG (α:=Nat) (fun i=>[(0,.is (.pointer (some ⟨b,0,none⟩))),(1,.is (fv fp)),(2,.is (.int .i64 kd)),(3,.is (.slice a3 ops.length c3)),(4,.is (.slice a4 ops.length c4)),(10,.is (.pointer (some ⟨b10,0,none⟩))),(11,.is (.pointer (some ⟨b11,0,none⟩))),(12,.is (.bool false)),(19,.is (.slice a3 ops.length c3)),(20,.is (.int .i64 (ops.length:Int))),(21,.is (.int .i64 (i:Int)))]) (fun i=>[⟨b11,Z7,.rep (ExR x)⟩,PB T b us,⟨b10,Z7,.is (.agg #[.int .i64 0,.int .i64 0,.int .i64 0,.string ⟨#[]⟩,.string ⟨#[]⟩,.string ⟨#[]⟩,.int .i64 0,.slice none 0 0])⟩]) (fun i=>fun _=>True) (fun i=>i<=ops.length/\opOf kd (ops.drop i) us=opOf kd ops us) (fun i=>ops.length-i) 0 [0,1,2,3,4,10,11,12,19,20,21] (.cons rfl (.cons rfl (.cons rfl (.cons rfl (.cons rfl (.cons rfl (.cons rfl (.cons rfl (.cons rfl (.cons rfl (.cons rfl .nil))))))))))) rfl (fun _=>trivial) ⟨by omega,rfl⟩ fun i ⟨hi,hO⟩=>?_;refine vQ ?_;refine Jq (Z10 rfl rfl) (vS [0,1,2,3,4,10,11,12,19,20,21,22] ?_);refine yC rfl (fun ht22=>?_) (fun ht22=>?_)
 try simp only[yd,yf]at ht22
 apply yK;refine vN ?_;apply yk;refine vQ ?_;refine Jm rfl (Jq (Zi Z3m rfl (ha3 qM) rfl qM qM) ?_);refine Jq (Z17 (enc:=sC) (sz:=1) (i:=i) (j:=0) (y:=(ops.getD i (em,0)).1) (u:=.string (ops.getD i (em,0)).1) Zr rfl qI (ha3 qM) (ZiC qM) qM rfl) ?_;refine Ja rfl (Ja rfl (vP [0,1,2,3,4,10,11,12,13,14,19,20,21] ?_));refine Jm rfl (Jm rfl (Jm rfl (JO.callK (Lr:=[_,_]) (Z3M T hc b us hus kd (ops.getD i (em,0)).1) rfl (.swap _ _ _) qF qA ?_)));intro _ _;refine vD ?_;refine vS [0,1,2,3,4,10,11,12,13,19,20,21,29] ?_;refine yC rfl (fun ht29=>?_) (fun ht29=>?_);have hit:isT kd (ops.getD i (em,0)).1 us=true:=ht29;have hop:opOf kd ops us=some (ops.getD i (em,0)).2:=by rw[<-hO,Z5o qM,if_pos hit]
 rw[Z1z hit]
 repeat apply yQ
 refine J.regBgPm (Bad:=p us.tail=none) (ch:=flt) (G:={z:Ex×List T3 // p us.tail=some z}) 7 9 (fun hbad=>?_) (fun g=>.rep (ExR g.1.1)) (fun g=>[PB T b g.1.2]++[⟨b11,Z7,.rep (ExR x)⟩,⟨b10,Z7,.is (.agg #[.int .i64 0,.int .i64 0,.int .i64 0,.string ⟨#[]⟩,.string ⟨#[]⟩,.string ⟨#[]⟩,.int .i64 0,.slice none 0 0])⟩]) ([⟨b11,Z7,.rep (ExR x)⟩,⟨b10,Z7,.is (.agg #[.int .i64 0,.int .i64 0,.int .i64 0,.string ⟨#[]⟩,.string ⟨#[]⟩,.string ⟨#[]⟩,.int .i64 0,.slice none 0 0])⟩]) rfl rfl rfl rfl hmx qK rfl qK (fun _ h=>List.mem_cons_of_mem _ h) (fun g o ho=>List.mem_cons_of_mem _ ho) qK ?_
 · exact JX.pnI (by show chainP p kd ops ts=none;rw[hI,Z3A hpd hop,hbad];rfl)
 refine yz (Z1 rfl) (yz (Z1 rfl) (yz (Zi Zfx rfl (ha4 qM) rfl qM qM) ?_));refine yz (Z17 (enc:=iC) (sz:=1) (i:=i) (j:=0) (y:=(ops.getD i (em,0)).2) (u:=.int .i64 (ops.getD i (em,0)).2) Zx rfl qI (ha4 qM) (ZiJ qM) qM rfl) ?_;refine yz (Z1J Z8 rfl) (yz (Z1 rfl) (yz (Z1 rfl) ?_));refine RT.biggP (Lq:=[⟨b11,Z7,.rep (ExR x)⟩,⟨b10,Z7,.is (.agg #[.int .i64 0,.int .i64 0,.int .i64 0,.string ⟨#[]⟩,.string ⟨#[]⟩,.string ⟨#[]⟩,.int .i64 0,.slice none 0 0])⟩]) (ZaL (cp:=[]) rfl (hpart us.tail (ZH hus) (by have:=(ZG hit).2;omega)) (.refl _) qF (.one rfl .nil)) (fun g=>?_);refine yz (Z68 Zy rfl rfl) ?_;apply yn;obtain⟨z,hg2⟩:=g;try dsimp only
 have hlt:=(ZG hit).2;refine Jq (ZN rfl (Z2R (ops.getD i (em,0)).2 [x,z.1]) qA) ?_;refine JO.m (Z2 rfl rfl qU qC qO Zc) (by rfl) ?_;refine Ja rfl (vS [0,1,2,3,4,10,11,12] ?_);refine J.exit ?_
 repeat first|refine yH ?_|refine yM rfl ?_|refine yE ?_
 repeat first|apply yX|apply yB
 repeat refine JX.normal_block ?_
 refine JX.roundG (x:=(true,x,us)) (true,nd (ops.getD i (em,0)).2 [x,z.1],z.2) ?_ ?_ [0,1,2,3,4,10,11,12] ?_ ?_ ?_ ?_
 · exact⟨((hpd _ _ hg2).1.trans (ZH hus)),(by have:=(hpd _ _ hg2).2;show z.2.length<=ts.length;omega),by unfold chI;rw[if_pos rfl];rw[hI,Z3A hpd hop,hg2];rfl⟩
 · exact(by have:=(hpd _ _ hg2).2;show 2*z.2.length+1<2*us.length+true.toNat;simp;omega)
 · exact qS
 · exact qH
 · exact qG
 · exact fun _ _ _=>fun _ _=>trivial
 apply yK
 repeat first|apply yX|apply yB
 rw[Z21 ht29];refine vQ ?_;refine Jq (Zv (cc:=((i+1:Nat):Int)) rfl rfl qM qM qM) ?_;refine Jm rfl ?_;apply yI
 repeat refine JX.normal_block ?_
 refine JX.roundG (x:=i) (i+1) ?_ ?_ [0,1,2,3,4,10,11,12,19,20,21] ?_ ?_ ?_ ?_
 · exact⟨by omega,by rw[<-hO,Z5o (i:=i) qM,if_neg (by rw[ht29];decide)]⟩
 · exact qM
 · exact qS
 · exact qH
 · exact qG
 · exact fun _ _ _=>fun _ _=>trivial
 try simp only[yd,yf]at ht22
 repeat apply yQ
 refine J.exit ?_
 repeat first|refine yH ?_|refine yM rfl ?_|refine yE ?_
 repeat first|apply yX|apply yB
 repeat refine JX.normal_block ?_
 refine JX.roundG (x:=(true,x,us)) (false,x,us) ?_ ?_ [0,1,2,3,4,10,11,12] ?_ ?_ ?_ ?_
 · exact⟨hus,hul,by unfold chI;rw[if_neg (by exact Bool.false_ne_true)];rw[hI];exact Z1L (by rw[<-hO,List.drop_eq_nil_of_le qM];rfl)⟩
 · exact(by show 2*us.length+0<2*us.length+true.toNat;simp)
 · exact qS
 · exact qH
 · exact qG
 · exact fun _ _ _=>fun _ _=>trivial
 repeat apply yQ
 refine J.exit ?_
 repeat first|refine yH ?_|refine yM rfl ?_|refine yE ?_
 repeat first|apply yX|apply yB
 obtain rfl:mo=false:=ht18;rw[chI,if_neg (by exact Bool.false_ne_true)]at hI;refine vQ ?_;refine Jq (Z1J Z8 rfl) (JO.m (Z2 rfl rfl qU qC qO Zc) (by rfl) ?_);refine vS [10] ?_;refine vR ?_;refine JX.toP ?_;exact JX.retLCs (Lr:=[_,_]) rfl (x,us) hI (.swap _ _ _) rfl rfl hb0 rfl Z8 HasOwn.mem Z1E (Sub.refl _)
end Go.Proofs.YtbedigkncjbggaaGreatDoor
