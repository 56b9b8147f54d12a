/- The library's functions that the scanner and the parser call, out of the kit's shelf. No condition. -/
import Derived.Test.YtbedigkncjbggaaGreatDoorXQ2
import Derived.Shelf.Strings.OnBuilder
import Derived.Shelf.Small.Strs
import Derived.Shelf.Strings.Search3
import Derived.Shelf.Strings.Fields
import Derived.Test.YtbedigkncjbggaaGreatDoorXG3
import Derived.Test.YtbedigkncjbggaaGreatDoorXQ1
set_option maxRecDepth 20000
namespace Go.Proofs.YtbedigkncjbggaaGreatDoor
open Go Go.Vc Go.Shelf
def Z4Y : Go.Shelf.Ren := ⟨fun | 158 => 93 | 165 => 80 | 166 => 81 | 167 => 133 | 169 => 82 | 230 => 134 | 203 => 135 | 240 => 129 | 241 => 130 | 197 => 153 | 118 => 154 | 168 => 155 | 270 => 156 | 262 => 157 | 276 => 147 | 277 => 148 | 260 => 171 | 242 => 172 | 313 => 173 | 278 => 181 | 274 => 182 | 275 => 183 | n => n, fun | 9 => 9 | 4 => 4 | 3 => 3 | 5 => 5 | 72 => 118 | 0 => 0 | 76 => 122 | 75 => 121 | 107 => 164 | 70 => 116 | 20 => 20 | 37 => 37 | 127 => 160 | 21 => 21 | 105 => 180 | 164 => 172 | 162 => 201 | 203 => 199 | 119 => 187 | 46 => 161 | 139 => 210 | 138 => 209 | 51 => 194 | 160 => 211 | 208 => 230 | 206 => 228 | 80 => 72 | n => n, fun | 13 => 3 | 3 => 5 | 4 => 6 | n => n⟩
theorem lays158 : Go.Proofs.Lays.n158 Tryz.prog Z4Y := {
 mixed := by kernel_rfl
 f118 := Tryz.func154.trans (congrArg some qK)
 f158 := Tryz.func93.trans (congrArg some qK)
 f165 := Tryz.func80.trans (congrArg some qK)
 f166 := Tryz.func81.trans (congrArg some qK)
 f167 := Tryz.func133.trans (congrArg some qK)
 f168 := Tryz.func155.trans (congrArg some qK)
 f169 := Tryz.func82.trans (congrArg some qK)
 f197 := Tryz.func153.trans (congrArg some qK)
 f203 := Tryz.func135.trans (congrArg some qK)
 f230 := Tryz.func134.trans (congrArg some qK)
 f240 := Tryz.func129.trans (congrArg some qK)
 f241 := Tryz.func130.trans (congrArg some qK)
 f242 := Tryz.func172.trans (congrArg some qK)
 f260 := Tryz.func171.trans (congrArg some qK)
 f262 := Tryz.func157.trans (congrArg some qK)
 f270 := Tryz.func156.trans (congrArg some qK)
 f274 := Tryz.func182.trans (congrArg some qK)
 f275 := Tryz.func183.trans (congrArg some qK)
 f276 := Tryz.func147.trans (congrArg some qK)
 f277 := Tryz.func148.trans (congrArg some qK)
 f278 := Tryz.func181.trans (congrArg some qK)
 f313 := Tryz.func173.trans (congrArg some qK)
 t0 := Tryz.underlying0
 a0 := Tryz.isAgg0
 z0 := Tryz.sizeOf0
 v0 := Tryz.zeroValue0
 t3 := Tryz.underlying3
 a3 := Tryz.isAgg3
 z3 := Tryz.sizeOf3
 v3 := Tryz.zeroValue3
 t4 := Tryz.underlying4
 a4 := Tryz.isAgg4
 z4 := Tryz.sizeOf4
 v4 := Tryz.zeroValue4
 t5 := Tryz.underlying5
 a5 := Tryz.isAgg5
 z5 := Tryz.sizeOf5
 v5 := Tryz.zeroValue5
 t9 := Tryz.underlying9
 a9 := Tryz.isAgg9
 z9 := Tryz.sizeOf9
 v9 := Tryz.zeroValue9
 t20 := Tryz.underlying20
 a20 := Tryz.isAgg20
 z20 := Tryz.sizeOf20
 v20 := Tryz.zeroValue20
 t21 := Tryz.underlying21
 a21 := Tryz.isAgg21
 z21 := Tryz.sizeOf21
 v21 := Tryz.zeroValue21
 t37 := Tryz.underlying37
 a37 := Tryz.isAgg37
 z37 := Tryz.sizeOf37
 v37 := Tryz.zeroValue37
 t46 := Tryz.underlying161
 a46 := Tryz.isAgg161
 z46 := Tryz.sizeOf161
 v46 := Tryz.zeroValue161
 t51 := Tryz.underlying194
 a51 := Tryz.isAgg194
 z51 := Tryz.sizeOf194
 v51 := Tryz.zeroValue194
 t70 := Tryz.underlying116
 a70 := Tryz.isAgg116
 z70 := Tryz.sizeOf116
 v70 := Tryz.zeroValue116
 t72 := Tryz.underlying118
 a72 := Tryz.isAgg118
 z72 := Tryz.sizeOf118
 v72 := Tryz.zeroValue118
 t75 := Tryz.underlying121
 a75 := Tryz.isAgg121
 z75 := Tryz.sizeOf121
 v75 := Tryz.zeroValue121
 t76 := Tryz.underlying122
 a76 := Tryz.isAgg122
 z76 := Tryz.sizeOf122
 v76 := Tryz.zeroValue122
 t105 := Tryz.underlying180
 a105 := Tryz.isAgg180
 z105 := Tryz.sizeOf180
 v105 := Tryz.zeroValue180
 t107 := Tryz.underlying164
 a107 := Tryz.isAgg164
 z107 := Tryz.sizeOf164
 v107 := Tryz.zeroValue164
 t119 := Tryz.underlying187
 a119 := Tryz.isAgg187
 z119 := Tryz.sizeOf187
 t127 := Tryz.underlying160
 a127 := Tryz.isAgg160
 z127 := Tryz.sizeOf160
 v127 := Tryz.zeroValue160
 t138 := Tryz.underlying209
 a138 := Tryz.isAgg209
 z138 := Tryz.sizeOf209
 v138 := Tryz.zeroValue209
 t139 := Tryz.underlying210
 a139 := Tryz.isAgg210
 z139 := Tryz.sizeOf210
 v139 := Tryz.zeroValue210
 t160 := Tryz.underlying211
 a160 := Tryz.isAgg211
 z160 := Tryz.sizeOf211
 v160 := Tryz.zeroValue211
 t162 := Tryz.underlying201
 a162 := Tryz.isAgg201
 z162 := Tryz.sizeOf201
 v162 := Tryz.zeroValue201
 t164 := Tryz.underlying172
 a164 := Tryz.isAgg172
 z164 := Tryz.sizeOf172
 v164 := Tryz.zeroValue172
 t203 := Tryz.underlying199
 a203 := Tryz.isAgg199
 z203 := Tryz.sizeOf199
 v203 := Tryz.zeroValue199
 t206 := Tryz.underlying228
 a206 := Tryz.isAgg228
 z206 := Tryz.sizeOf228
 v206 := Tryz.zeroValue228
 t208 := Tryz.underlying230
 a208 := Tryz.isAgg230
 z208 := Tryz.sizeOf230
 v208 := Tryz.zeroValue230
 g3 := by kernel_rfl
 g4 := by kernel_rfl
 g13 := by kernel_rfl }
theorem extra158 : Builder.Extra Tryz.prog Z4Y := {
 sizeBuilder := by kernel_rfl
 liesBuilder := by kernel_rfl
 t5 := Tryz.underlying5
 a5 := Tryz.isAgg5
 z5 := Tryz.sizeOf5
 v5 := Tryz.zeroValue5
 infoByte := by kernel_rfl
 cellsByte := by kernel_rfl
 sizeByte := by kernel_rfl
 neB5 := by decide }
open Go.RowKit in
def Zaz : Go.Shelf.Ren := ⟨fun | 159 => 142 | 165 => 80 | 166 => 81 | 167 => 133 | 169 => 82 | 230 => 134 | 204 => 161 | 240 => 129 | 241 => 130 | 197 => 153 | 118 => 154 | 168 => 155 | 270 => 156 | 262 => 157 | 276 => 147 | 277 => 148 | 260 => 171 | 242 => 172 | 313 => 173 | 278 => 181 | 274 => 182 | 275 => 183 | n => n, fun | 9 => 9 | 4 => 4 | 3 => 3 | 5 => 5 | 72 => 118 | 0 => 0 | 76 => 122 | 75 => 121 | 107 => 164 | 70 => 116 | 20 => 20 | 37 => 37 | 127 => 160 | 21 => 21 | 105 => 180 | 164 => 172 | 162 => 201 | 203 => 199 | 119 => 187 | 46 => 161 | 139 => 210 | 138 => 209 | 51 => 194 | 160 => 211 | 208 => 230 | 206 => 228 | 80 => 72 | n => n, fun | 13 => 3 | 3 => 5 | 4 => 6 | n => n⟩
theorem lays159 : Go.Proofs.Lays.n159 Tryz.prog Zaz := {
 mixed := by kernel_rfl
 f118 := Tryz.func154.trans (congrArg some qK)
 f159 := Tryz.func142.trans (congrArg some qK)
 f165 := Tryz.func80.trans (congrArg some qK)
 f166 := Tryz.func81.trans (congrArg some qK)
 f167 := Tryz.func133.trans (congrArg some qK)
 f168 := Tryz.func155.trans (congrArg some qK)
 f169 := Tryz.func82.trans (congrArg some qK)
 f197 := Tryz.func153.trans (congrArg some qK)
 f204 := Tryz.func161.trans (congrArg some qK)
 f230 := Tryz.func134.trans (congrArg some qK)
 f240 := Tryz.func129.trans (congrArg some qK)
 f241 := Tryz.func130.trans (congrArg some qK)
 f242 := Tryz.func172.trans (congrArg some qK)
 f260 := Tryz.func171.trans (congrArg some qK)
 f262 := Tryz.func157.trans (congrArg some qK)
 f270 := Tryz.func156.trans (congrArg some qK)
 f274 := Tryz.func182.trans (congrArg some qK)
 f275 := Tryz.func183.trans (congrArg some qK)
 f276 := Tryz.func147.trans (congrArg some qK)
 f277 := Tryz.func148.trans (congrArg some qK)
 f278 := Tryz.func181.trans (congrArg some qK)
 f313 := Tryz.func173.trans (congrArg some qK)
 t0 := Tryz.underlying0
 a0 := Tryz.isAgg0
 z0 := Tryz.sizeOf0
 v0 := Tryz.zeroValue0
 t3 := Tryz.underlying3
 a3 := Tryz.isAgg3
 z3 := Tryz.sizeOf3
 v3 := Tryz.zeroValue3
 t4 := Tryz.underlying4
 a4 := Tryz.isAgg4
 z4 := Tryz.sizeOf4
 v4 := Tryz.zeroValue4
 t5 := Tryz.underlying5
 a5 := Tryz.isAgg5
 z5 := Tryz.sizeOf5
 v5 := Tryz.zeroValue5
 t9 := Tryz.underlying9
 a9 := Tryz.isAgg9
 z9 := Tryz.sizeOf9
 v9 := Tryz.zeroValue9
 t20 := Tryz.underlying20
 a20 := Tryz.isAgg20
 z20 := Tryz.sizeOf20
 v20 := Tryz.zeroValue20
 t21 := Tryz.underlying21
 a21 := Tryz.isAgg21
 z21 := Tryz.sizeOf21
 v21 := Tryz.zeroValue21
 t37 := Tryz.underlying37
 a37 := Tryz.isAgg37
 z37 := Tryz.sizeOf37
 v37 := Tryz.zeroValue37
 t46 := Tryz.underlying161
 a46 := Tryz.isAgg161
 z46 := Tryz.sizeOf161
 v46 := Tryz.zeroValue161
 t51 := Tryz.underlying194
 a51 := Tryz.isAgg194
 z51 := Tryz.sizeOf194
 v51 := Tryz.zeroValue194
 t70 := Tryz.underlying116
 a70 := Tryz.isAgg116
 z70 := Tryz.sizeOf116
 v70 := Tryz.zeroValue116
 t72 := Tryz.underlying118
 a72 := Tryz.isAgg118
 z72 := Tryz.sizeOf118
 v72 := Tryz.zeroValue118
 t75 := Tryz.underlying121
 a75 := Tryz.isAgg121
 z75 := Tryz.sizeOf121
 v75 := Tryz.zeroValue121
 t76 := Tryz.underlying122
 a76 := Tryz.isAgg122
 z76 := Tryz.sizeOf122
 v76 := Tryz.zeroValue122
 t105 := Tryz.underlying180
 a105 := Tryz.isAgg180
 z105 := Tryz.sizeOf180
 v105 := Tryz.zeroValue180
 t107 := Tryz.underlying164
 a107 := Tryz.isAgg164
 z107 := Tryz.sizeOf164
 v107 := Tryz.zeroValue164
 t119 := Tryz.underlying187
 a119 := Tryz.isAgg187
 z119 := Tryz.sizeOf187
 t127 := Tryz.underlying160
 a127 := Tryz.isAgg160
 z127 := Tryz.sizeOf160
 v127 := Tryz.zeroValue160
 t138 := Tryz.underlying209
 a138 := Tryz.isAgg209
 z138 := Tryz.sizeOf209
 v138 := Tryz.zeroValue209
 t139 := Tryz.underlying210
 a139 := Tryz.isAgg210
 z139 := Tryz.sizeOf210
 v139 := Tryz.zeroValue210
 t160 := Tryz.underlying211
 a160 := Tryz.isAgg211
 z160 := Tryz.sizeOf211
 v160 := Tryz.zeroValue211
 t162 := Tryz.underlying201
 a162 := Tryz.isAgg201
 z162 := Tryz.sizeOf201
 v162 := Tryz.zeroValue201
 t164 := Tryz.underlying172
 a164 := Tryz.isAgg172
 z164 := Tryz.sizeOf172
 v164 := Tryz.zeroValue172
 t203 := Tryz.underlying199
 a203 := Tryz.isAgg199
 z203 := Tryz.sizeOf199
 v203 := Tryz.zeroValue199
 t206 := Tryz.underlying228
 a206 := Tryz.isAgg228
 z206 := Tryz.sizeOf228
 v206 := Tryz.zeroValue228
 t208 := Tryz.underlying230
 a208 := Tryz.isAgg230
 z208 := Tryz.sizeOf230
 v208 := Tryz.zeroValue230
 g3 := by kernel_rfl
 g4 := by kernel_rfl
 g13 := by kernel_rfl }
theorem extra159 : Builder.Extra Tryz.prog Zaz := {
 sizeBuilder := by kernel_rfl
 liesBuilder := by kernel_rfl
 t5 := Tryz.underlying5
 a5 := Tryz.isAgg5
 z5 := Tryz.sizeOf5
 v5 := Tryz.zeroValue5
 infoByte := by kernel_rfl
 cellsByte := by kernel_rfl
 sizeByte := by kernel_rfl
 neB5 := by decide }
open Go.RowKit in
def ZeA : Go.Shelf.Ren := ⟨fun | 137 => 97 | 217 => 138 | 266 => 160 | n => n, fun | 9 => 9 | 5 => 5 | 3 => 3 | n => n, fun | n => n⟩
theorem lays137 : Go.Proofs.Lays.n137 Tryz.prog ZeA := {
 mixed := by kernel_rfl
 f137 := Tryz.func97.trans (congrArg some qK)
 f217 := Tryz.func138.trans (congrArg some qK)
 f266 := Tryz.func160.trans (congrArg some qK)
 t3 := Tryz.underlying3
 a3 := Tryz.isAgg3
 z3 := Tryz.sizeOf3
 v3 := Tryz.zeroValue3
 t5 := Tryz.underlying5
 a5 := Tryz.isAgg5
 z5 := Tryz.sizeOf5
 v5 := Tryz.zeroValue5
 t9 := Tryz.underlying9
 a9 := Tryz.isAgg9
 z9 := Tryz.sizeOf9
 v9 := Tryz.zeroValue9 }
open Go.RowKit in
def Zl6 : Go.Shelf.Ren := ⟨fun | 143 => 159 | 219 => 176 | 217 => 138 | 225 => 184 | 224 => 185 | 267 => 186 | 266 => 160 | 314 => 190 | n => n, fun | 9 => 9 | 3 => 3 | 4 => 4 | 5 => 5 | 46 => 161 | 146 => 231 | 51 => 194 | n => n, fun | 1 => 1 | n => n⟩
open Go.RowKit Go.Lib in
def Zez : Go.Shelf.Ren := ⟨fun | 144 => 141 | 143 => 159 | 219 => 176 | 217 => 138 | 225 => 184 | 224 => 185 | 267 => 186 | 266 => 160 | 314 => 190 | n => n, fun | 9 => 9 | 4 => 4 | 3 => 3 | 5 => 5 | 46 => 161 | 146 => 231 | 51 => 194 | n => n, fun | 1 => 1 | n => n⟩
theorem lays144 : Go.Proofs.Lays.n144 Tryz.prog Zez := {
 mixed := by kernel_rfl
 f143 := Tryz.func159.trans (congrArg some qK)
 f144 := Tryz.func141.trans (congrArg some qK)
 f217 := Tryz.func138.trans (congrArg some qK)
 f219 := Tryz.func176.trans (congrArg some qK)
 f224 := Tryz.func185.trans (congrArg some qK)
 f225 := Tryz.func184.trans (congrArg some qK)
 f266 := Tryz.func160.trans (congrArg some qK)
 f267 := Tryz.func186.trans (congrArg some qK)
 f314 := Tryz.func190.trans (congrArg some qK)
 t3 := Tryz.underlying3
 a3 := Tryz.isAgg3
 z3 := Tryz.sizeOf3
 v3 := Tryz.zeroValue3
 t4 := Tryz.underlying4
 a4 := Tryz.isAgg4
 z4 := Tryz.sizeOf4
 v4 := Tryz.zeroValue4
 t5 := Tryz.underlying5
 a5 := Tryz.isAgg5
 z5 := Tryz.sizeOf5
 v5 := Tryz.zeroValue5
 t9 := Tryz.underlying9
 a9 := Tryz.isAgg9
 z9 := Tryz.sizeOf9
 v9 := Tryz.zeroValue9
 t46 := Tryz.underlying161
 a46 := Tryz.isAgg161
 z46 := Tryz.sizeOf161
 v46 := Tryz.zeroValue161
 t51 := Tryz.underlying194
 a51 := Tryz.isAgg194
 z51 := Tryz.sizeOf194
 v51 := Tryz.zeroValue194
 t146 := Tryz.underlying231
 a146 := Tryz.isAgg231
 z146 := Tryz.sizeOf231
 v146 := Tryz.zeroValue231
 g1 := by kernel_rfl }
open Go.RowKit Go.Lib in
def Zel : Go.Shelf.Ren := ⟨fun | 157 => 144 | 229 => 162 | 199 => 163 | 261 => 177 | 311 => 187 | 312 => 188 | n => n, fun | 9 => 9 | 31 => 24 | 3 => 3 | 5 => 5 | 4 => 4 | 119 => 187 | 0 => 0 | 40 => 189 | 152 => 202 | 21 => 21 | 154 => 204 | 51 => 194 | 141 => 206 | 196 => 217 | 193 => 214 | 198 => 220 | 49 => 218 | 194 => 215 | 201 => 223 | 226 => 233 | 46 => 161 | 227 => 234 | n => n, fun | 0 => 0 | 6 => 4 | n => n⟩
theorem lays157 : Go.Proofs.Lays.n157 Tryz.prog Zel := {
 mixed := by kernel_rfl
 f157 := Tryz.func144.trans (congrArg some qK)
 f199 := Tryz.func163.trans (congrArg some qK)
 f229 := Tryz.func162.trans (congrArg some qK)
 f261 := Tryz.func177.trans (congrArg some qK)
 f311 := Tryz.func187.trans (congrArg some qK)
 f312 := Tryz.func188.trans (congrArg some qK)
 t0 := Tryz.underlying0
 a0 := Tryz.isAgg0
 z0 := Tryz.sizeOf0
 v0 := Tryz.zeroValue0
 t3 := Tryz.underlying3
 a3 := Tryz.isAgg3
 z3 := Tryz.sizeOf3
 v3 := Tryz.zeroValue3
 t4 := Tryz.underlying4
 a4 := Tryz.isAgg4
 z4 := Tryz.sizeOf4
 v4 := Tryz.zeroValue4
 t5 := Tryz.underlying5
 a5 := Tryz.isAgg5
 z5 := Tryz.sizeOf5
 v5 := Tryz.zeroValue5
 t9 := Tryz.underlying9
 a9 := Tryz.isAgg9
 z9 := Tryz.sizeOf9
 v9 := Tryz.zeroValue9
 t21 := Tryz.underlying21
 a21 := Tryz.isAgg21
 z21 := Tryz.sizeOf21
 v21 := Tryz.zeroValue21
 t31 := Tryz.underlying24
 a31 := Tryz.isAgg24
 z31 := Tryz.sizeOf24
 v31 := Tryz.zeroValue24
 t40 := Tryz.underlying189
 a40 := Tryz.isAgg189
 z40 := Tryz.sizeOf189
 v40 := Tryz.zeroValue189
 t46 := Tryz.underlying161
 a46 := Tryz.isAgg161
 z46 := Tryz.sizeOf161
 v46 := Tryz.zeroValue161
 t49 := Tryz.underlying218
 a49 := Tryz.isAgg218
 z49 := Tryz.sizeOf218
 v49 := Tryz.zeroValue218
 t51 := Tryz.underlying194
 a51 := Tryz.isAgg194
 z51 := Tryz.sizeOf194
 v51 := Tryz.zeroValue194
 t119 := Tryz.underlying187
 a119 := Tryz.isAgg187
 z119 := Tryz.sizeOf187
 t141 := Tryz.underlying206
 a141 := Tryz.isAgg206
 z141 := Tryz.sizeOf206
 v141 := Tryz.zeroValue206
 t152 := Tryz.underlying202
 a152 := Tryz.isAgg202
 z152 := Tryz.sizeOf202
 v152 := Tryz.zeroValue202
 t154 := Tryz.underlying204
 a154 := Tryz.isAgg204
 z154 := Tryz.sizeOf204
 v154 := Tryz.zeroValue204
 t193 := Tryz.underlying214
 a193 := Tryz.isAgg214
 z193 := Tryz.sizeOf214
 v193 := Tryz.zeroValue214
 t194 := Tryz.underlying215
 a194 := Tryz.isAgg215
 z194 := Tryz.sizeOf215
 v194 := Tryz.zeroValue215
 t196 := Tryz.underlying217
 a196 := Tryz.isAgg217
 z196 := Tryz.sizeOf217
 v196 := Tryz.zeroValue217
 t198 := Tryz.underlying220
 a198 := Tryz.isAgg220
 z198 := Tryz.sizeOf220
 v198 := Tryz.zeroValue220
 t201 := Tryz.underlying223
 a201 := Tryz.isAgg223
 z201 := Tryz.sizeOf223
 v201 := Tryz.zeroValue223
 t226 := Tryz.underlying233
 a226 := Tryz.isAgg233
 z226 := Tryz.sizeOf233
 v226 := Tryz.zeroValue233
 t227 := Tryz.underlying234
 a227 := Tryz.isAgg234
 z227 := Tryz.sizeOf234
 v227 := Tryz.zeroValue234
 g0 := by kernel_rfl
 g6 := by kernel_rfl }
open Go.RowKit Go.Lib in
def GF (w : World) : Prop := ∃ m, w.cell? ⟨1, 0, none⟩ = some (.int .i64 m)
def AF (w : World) : Prop := Lib.TabIs Tryz.prog w "strings.asciiSpace" .u8 Lib.asciiSpaceTab
theorem Z9p (s : ByteArray) (c : Int) : CallTy Tryz.prog Z9r [.is (.string s), .is (.int .u8 c)] (.is (.int .i64 (Lib.indexByte s.data.toList c.toNat.toUInt8))) :=
 .ofShelf0 (ws := [.string s, .int .u8 c]) (fun _ _ => by kernel_rfl) fun w => Any.strings_IndexByte lays137 s c w
theorem Z6K (s : ByteArray) (hs : s.size ≤ 140737488355328) (ha : ∀ (j : Nat) (b : UInt8), s.data.toList[j]? = some b → b.toNat < 128) : CallTy Tryz.prog Zat [.is (.string s)] (.is (.string ⟨(Lib.toUpperA s.data.toList).toArray⟩)) :=
 .ofShelf (ws := [.string s]) (fun _ _ => by kernel_rfl) fun w => Any.strings_ToUpper_ascii lays158 extra158 s w hs ha
theorem Zav (s : ByteArray) (hs : s.size ≤ 140737488355328) (ha : ∀ (j : Nat) (b : UInt8), s.data.toList[j]? = some b → b.toNat < 128) : CallTy Tryz.prog Zas [.is (.string s)] (.is (.string ⟨(Lib.toLowerA s.data.toList).toArray⟩)) :=
 .ofShelf (ws := [.string s]) (fun _ _ => by kernel_rfl) fun w => Any.strings_ToLower_ascii lays159 extra159 s w hs ha
theorem Z6v (s sub : ByteArray) (hs : s.size < 4294967281) : CallF Tryz.prog Z9J [GF] [.is (.string s), .is (.string sub)] (.is (.bool (Lib.contains s.data.toList sub.data.toList))) :=
 .ofShelf (ws := [.string s, .string sub]) (fun _ _ => by kernel_rfl) fun w hw => by
  obtain ⟨m, hm⟩ := hw GF (by simp)
  exact (Any.strings_Contains lays144 s sub m w hs hm).mono fun e w' ⟨h1, h2⟩ => ⟨h1, h2 ▸ .refl _ _⟩
theorem ZaX (s : ByteArray) (hs : s.size < 4294967281) (ha : ∀ (j : Nat) (b : UInt8), s.data.toList[j]? = some b → b.toNat < 128) : CallF Tryz.prog Z76 [AF] [.is (.string s)] (.newSl (.cells ((Lib.fields s.data.toList).map fun l => Value.string ⟨l.toArray⟩).toArray 9 (0, 0)) (Lib.fields s.data.toList).length (Lib.fields s.data.toList).length) :=
 ⟨fun _ _ => by kernel_rfl, fun E w vs hw hF ht => by
   obtain ⟨v, rfl, rfl⟩ : ∃ v, vs = [v] ∧ v = .string s := by
     cases vs with
     | nil => exact ht.elim
     | cons v vs =>
       obtain ⟨h1, h2⟩ := ht
       cases vs with
       | nil => exact ⟨v, rfl, h1⟩
       | cons _ _ => exact h2.elim
   have hT : AF w := (hF AF (by simp)).now
   refine Calls.mono (Any.strings_Fields lays157 qK qK s w hs ha hT) ?_
   rintro e w' ⟨rfl, rfl⟩
   exact ⟨_, rfl, Keeps.alloc w _, _, rfl, fun he => absurd (hw _ he) qM, Z1K w _⟩⟩
end Go.Proofs.YtbedigkncjbggaaGreatDoor
set_option maxRecDepth 20000
namespace Go.Proofs.YtbedigkncjbggaaGreatDoor
open Go Go.Vc
abbrev sv (s : ByteArray) (i : Nat) : Value := .agg #[.string s, .int .i64 (i : Int)]
def or32 (c : Int) : Int := IntKind.u8.wrap (BitVec.ofInt IntKind.u8.bits c ||| BitVec.ofInt IntKind.u8.bits 32).toNat
def letterF (c : Int) : Bool := (c == 95) ||(decide (97 ≤ or32 c) && decide (or32 c ≤ 122))
def digitF (c : Int) : Bool := decide (48 ≤ c) && decide (c ≤ 57)
def letB (b : UInt8) : Bool := letterF b.toNat
def digB (b : UInt8) : Bool := digitF b.toNat
def wordB (b : UInt8) : Bool := letB b || digB b
def isSp (b : UInt8) : Bool := decide (0 ≤ Lib.indexByte [32, 9, 10, 13] b)
def runN (p : UInt8 → Bool) : List UInt8 → Nat
 | [] => 0
 | b :: l => if p b then runN p l + 1 else 0
theorem Z68 (p : UInt8 → Bool) : ∀ l : List UInt8, runN p l ≤ l.length
 | [] => Nat.le_refl _
 | b :: l => by
   have := Z68 p l
   unfold runN
   split <;> simp <;> omega
theorem ZdA {p : UInt8 → Bool} {s : ByteArray} {i : Nat} (h : i < s.size → p (by_ s i) = false) : runN p (dr s i) = 0 := by
 by_cases hi : i < s.size
 · rw [Z3p hi, runN, if_neg (by rw [h hi]; simp)]
 · rw [Z9v qM]; rfl
theorem ZgT {p : UInt8 → Bool} {s : ByteArray} {i : Nat} (hi : i < s.size) (h : p (by_ s i) = true) : runN p (dr s i) = runN p (dr s (i + 1)) + 1 := by
 rw [Z3p hi, runN, if_pos h]
theorem Zhn {p : UInt8 → Bool} {s : ByteArray} {i : Nat} (hi : i ≤ s.size) : i + runN p (dr s i) ≤ s.size := by
 have := Z68 p (dr s i)
 rw [Z9G] at this
 omega
theorem Ziz (s : ByteArray) (i : Nat) : (sb s i).toNat.toUInt8 = by_ s i := by
 rw [Zln]
 simp
def kwB : ByteArray := ⟨#[32, 65, 78, 68, 32, 65, 83, 32, 65, 83, 67, 32, 66, 69, 71, 73, 78, 32, 66, 79, 79, 76, 32, 66, 89, 32, 67, 79, 77, 77, 73, 84, 32, 67, 79, 85, 78, 84, 32, 67, 82, 69, 65, 84, 69, 32, 68, 69, 76, 69, 84, 69, 32, 68, 69, 83, 67, 32, 70, 65, 76, 83, 69, 32, 70, 82, 79, 77, 32, 71, 82, 79, 85, 80, 32, 72, 65, 83, 72, 32, 73, 78, 68, 69, 88, 32, 73, 78, 78, 69, 82, 32, 73, 78, 83, 69, 82, 84, 32, 73, 78, 84, 32, 73, 78, 84, 79, 32, 73, 83, 32, 74, 79, 73, 78, 32, 75, 69, 89, 32, 76, 73, 77, 73, 84, 32, 77, 65, 88, 32, 77, 73, 78, 32, 78, 79, 84, 32, 78, 85, 76, 76, 32, 79, 78, 32, 79, 82, 32, 79, 82, 68, 69, 82, 32, 80, 82, 73, 77, 65, 82, 89, 32, 82, 79, 76, 76, 66, 65, 67, 75, 32, 83, 69, 76, 69, 67, 84, 32, 83, 69, 84, 32, 83, 85, 77, 32, 84, 65, 66, 76, 69, 32, 84, 69, 88, 84, 32, 84, 82, 85, 69, 32, 85, 78, 73, 81, 85, 69, 32, 85, 80, 68, 65, 84, 69, 32, 85, 83, 73, 78, 71, 32, 86, 65, 76, 85, 69, 83, 32, 87, 72, 69, 82, 69, 32]⟩
def sgB : ByteArray := ⟨#[32, 60, 62, 32, 60, 61, 32, 62, 61, 32, 40, 32, 41, 32, 44, 32, 59, 32, 42, 32, 43, 32, 45, 32, 47, 32, 37, 32, 61, 32, 60, 32, 62, 32, 46, 32]⟩
abbrev sp1 : ByteArray := ⟨#[32]⟩
abbrev bl (l : List UInt8) : ByteArray := ⟨l.toArray⟩
theorem Z4b (l : List UInt8) : (bl l).size = l.length := by show l.toArray.size = _; simp
theorem Z4c (l : List UInt8) : (bl l).data.toList = l := by simp
theorem Zlh (s : ByteArray) : bl s.data.toList = s := by cases s; simp
theorem ZgK (s : ByteArray) (n k : Nat) : s.extract n (n + k) = bl ((dr s n).take k) := by
 rw [← Z1E, Zlh]
theorem Z95 (a b : ByteArray) : (a ++ b).data.toList = a.data.toList ++ b.data.toList := by
 rw [ByteArray.data_append, Array.toList_append]
def padL (l : List UInt8) : List UInt8 := 32 :: l ++ [32]
theorem Z7h (a : ByteArray) : ((sp1 ++ a) ++ sp1).data.toList = padL a.data.toList := by
 rw [Z95, Z95]; rfl
def wordL (w : List UInt8) : T3 × Int :=
 if Lib.contains kwB.data.toList (padL (Lib.toUpperA w)) then (⟨1, bl (Lib.toUpperA w), 0⟩, 0)
 else if decide (32 < (w.length : Int)) then (t3D, 30) else (⟨2, bl (Lib.toLowerA w), 0⟩, 0)
def numStep (a : Int × Int) (b : UInt8) : Int × Int :=
 (IntKind.i64.wrap (IntKind.i64.wrap (10 * a.1) + IntKind.i64.wrap (IntKind.u8.wrap ((b.toNat : Int) - 48))),
  if decide ((IntKind.i64.wrap ((IntKind.i64.wrap (9223372036854775807 - IntKind.i64.wrap (IntKind.u8.wrap ((b.toNat : Int) - 48)))).tdiv 10)) < a.1) then 35 else a.2)
def headP (p : UInt8 → Bool) : List UInt8 → Bool
 | [] => false
 | b :: _ => p b
def numE (l : List UInt8) : Int := if headP letB (l.drop (runN digB l)) then 30 else ((l.take (runN digB l)).foldl numStep (0, 0)).2
def numL (l : List UInt8) : T3 × Int :=
 if (numE l != 0) then (t3D, numE l) else (⟨3, ⟨#[]⟩, ((l.take (runN digB l)).foldl numStep (0, 0)).1⟩, 0)
def endT (acc : List UInt8) : T3 × Int := if decide (64 < (acc.length : Int)) then (t3D, 30) else (⟨4, bl acc, 0⟩, 0)
def textL : List UInt8 → List UInt8 → (T3 × Int) × Nat
 | [], _ => ((t3D, 30), 0)
 | [b], acc => if b == 39 then (endT acc, 1) else ((t3D, 30), 1)
 | b :: c :: l, acc => if b == 39 then (if c != 39 then (endT acc, 1) else ((textL l (acc ++ [c])).1, (textL l (acc ++ [c])).2 + 2)) else ((textL (c :: l) (acc ++ [b])).1, (textL (c :: l) (acc ++ [b])).2 + 1)
def tryL (l : List UInt8) (q : Nat) : Bool := decide (q ≤ l.length) && Lib.contains sgB.data.toList (padL (l.take q))
def signL (l : List UInt8) : (T3 × Int) × Nat := if tryL l 2 then ((⟨5, bl (l.take 2), 0⟩, 0), 2) else if tryL l 1 then ((⟨5, bl (l.take 1), 0⟩, 0), 1) else ((t3D, 30), 0)
def stepL : List UInt8 → (T3 × Int) × Nat
 | [] => ((t3D, 30), 0)
 | b :: l => if letB b then (wordL ((b :: l).take (runN wordB (b :: l))), runN wordB (b :: l))
  else if digB b then (numL (b :: l), runN digB (b :: l))
  else if b == 39 then ((textL l []).1, (textL l []).2 + 1)
  else signL (b :: l)
def allG : Nat → List UInt8 → List T3 × Int
 | 0, _ => ([], 0)
 | f + 1, l => match l.drop (runN isSp l) with
   | [] => ([], 0)
   | b :: r => if ((stepL (b :: r)).1.2 != 0) then ([], (stepL (b :: r)).1.2)
     else if ((allG f ((b :: r).drop (stepL (b :: r)).2)).2 != 0) then ([], (allG f ((b :: r).drop (stepL (b :: r)).2)).2)
     else ((stepL (b :: r)).1.1 :: (allG f ((b :: r).drop (stepL (b :: r)).2)).1, 0)
def lexL (l : List UInt8) : List T3 × Int := if decide (2048 < (l.length : Int)) then ([], 30) else allG (l.length + 1) l
theorem Zcd (w : List UInt8) : (Lib.toUpperA w).length = w.length := by simp [Lib.toUpperA]
theorem Zec (w : List UInt8) : (Lib.toLowerA w).length = w.length := by simp [Lib.toLowerA]
theorem Zf4 {a : ByteArray} (h : a.size ≤ 2048) : sp1.size + a.size ≤ 9223372036854775807 := by
 have : sp1.size = 1 := rfl
 omega
theorem ZeX {a : ByteArray} (h : a.size ≤ 2048) : (sp1 ++ a).size + sp1.size ≤ 9223372036854775807 := by
 have : sp1.size = 1 := rfl
 rw [ByteArray.size_append]
 omega
theorem Z65 (s : ByteArray) (n k : Nat) : (s.extract n (n + k)).size ≤ s.size := by
 rw [ZgK, Z4b, List.length_take, Z9G]
 omega
theorem ZbM : ∀ n : Nat, n < 256 → (letterF n || digitF n) = true → n < 128 := by decide +kernel
theorem Zfx {b : UInt8} (h : wordB b = true) : b.toNat < 128 := ZbM b.toNat b.toNat_lt h
theorem Z8i (p : UInt8 → Bool) : ∀ l : List UInt8, ∀ b ∈ l.take (runN p l), p b = true
 | [], b, h => by simp [runN] at h
 | c :: l, b, h => by
   unfold runN at h
   by_cases hc : p c = true
   · rw [if_pos hc, List.take_succ_cons] at h
     rcases List.mem_cons.1 h with rfl | h
     · exact hc
     · exact Z8i p l b h
   · rw [if_neg hc] at h
     simp at h
theorem ZcE (s : ByteArray) (n : Nat) : ∀ (j : Nat) (b : UInt8), (s.extract n (n + runN wordB (dr s n))).data.toList[j]? = some b → b.toNat < 128 := fun j b h => by
 rw [Z1E] at h
 exact Zfx (Z8i wordB _ b (List.mem_of_getElem? h))
end Go.Proofs.YtbedigkncjbggaaGreatDoor
set_option maxRecDepth 20000
namespace Go.Proofs.YtbedigkncjbggaaGreatDoor
open Go Go.Vc
abbrev AB : UInt8 → Ty := fun b => .is (.int .u8 b.toNat)
abbrev RBB (p : UInt8 → Bool) : UInt8 → Ty := fun b => .is (.bool (p b))
abbrev TT : World → Prop := fun _ => True
theorem Z7G {a b : Bool} (h : (a && b) = true) : a = true ∧ b = true := by simpa using h
theorem Z7i (c : Int) : CallTy Tryz.prog Zdh [.is (.int .u8 c)] (.is (.bool (letterF c))) :=
 CallTy.of (fn := Tryz.f98) Tryz.func98 (n := 15) rfl rfl rfl (fun _ _ => by kernel_rfl) fun E W => by
 refine vQ ?_
 refine Ja rfl ?_
 refine vS [0] ?_
 refine J.reg0 hmx qK qK ?_
 refine yz (Z2 rfl) ?_
 refine yz (ZM rfl rfl) ?_
 refine yz (Z2 rfl) ?_
 refine yg rfl rfl rfl (fun hg => Z2 (.inl rfl)) ?_
 refine yg rfl rfl rfl (fun hg => ZiD (qR rfl) (.inl rfl)) ?_
 refine yg rfl rfl rfl (fun hg => Z8E (qR rfl) (.inl rfl)) ?_
 refine yg rfl rfl rfl (fun hg => Z2 (qR rfl)) ?_
 refine RT.gg rfl rfl rfl (fun hg => (Z2 (.inl rfl))) ?_
 refine RT.gg rfl rfl rfl (fun hg => (ZiD (qR rfl) (.inl rfl))) ?_
 refine RT.gg rfl rfl rfl (fun hg => (Z44 (qR rfl) (.inl rfl))) ?_
 refine yg rfl rfl rfl (fun hg => ZV (qR rfl) (.inl rfl) (.inl rfl) (fun h => ⟨hg, h⟩)) ?_
 refine yz (Z11 rfl rfl rfl id) ?_
 refine yz (Z1s rfl) ?_
 apply yn
 refine FinS.nil0 ?_
 refine vS [2] ?_
 refine vR ?_
 exact JX.ret1is rfl rfl (by rfl)
theorem Z7Y (c : Int) : CallTy Tryz.prog ZaL [.is (.int .u8 c)] (.is (.bool (digitF c))) :=
 CallTy.of (fn := Tryz.f100) Tryz.func100 (n := 9) rfl rfl rfl (fun _ _ => by kernel_rfl) fun E W => by
 refine vQ ?_
 refine Ja rfl ?_
 refine vS [0] ?_
 refine J.reg0 hmx qK qK ?_
 refine yz (Z2 rfl) ?_
 refine yz (Z8E rfl rfl) ?_
 refine yz (Z2 rfl) ?_
 refine yg rfl rfl rfl (fun hg => Z2 (.inl rfl)) ?_
 refine yg rfl rfl rfl (fun hg => Z44 (qR rfl) (.inl rfl)) ?_
 refine yz (ZV rfl rfl rfl id) ?_
 refine yz (Z1s rfl) ?_
 apply yn
 refine FinS.nil0 ?_
 refine vS [2] ?_
 refine vR ?_
 exact JX.ret1is rfl rfl (by rfl)
theorem Z7T (c : Int) : CallTy Tryz.prog Z4X [.is (.int .u8 c)] (.is (.bool (letterF c || digitF c))) :=
 CallTy.of (fn := Tryz.f140) Tryz.func140 (n := 9) rfl rfl rfl (fun _ _ => by kernel_rfl) fun E W => by
 refine vQ ?_
 refine Ja rfl ?_
 refine vS [0] ?_
 refine J.reg0 hmx qK qK ?_
 refine yz (Z2 rfl) ?_
 refine yz (ZL rfl (Z7i c) qA) ?_
 refine yz (Z2 rfl) ?_
 refine yg rfl rfl rfl (fun hg => Z2 (.inl rfl)) ?_
 refine yg rfl rfl rfl (fun hg => ZL (.inl rfl) (Z7Y c) (.one (qR rfl) .nil)) ?_
 refine yz (Z11 rfl rfl rfl id) ?_
 refine yz (Z1s rfl) ?_
 apply yn
 refine FinS.nil0 ?_
 refine vS [2] ?_
 refine vR ?_
 exact JX.ret1is rfl rfl (by rfl)
theorem ZjT : Fn1 Tryz.prog (.func (.func Z4X) ([] : List Value).toArray ([] : List Value).toArray) TT AB (RBB wordB) :=
 Fn1.of (TF := []) (TC := []) (fun b => Z7T b.toNat) (fun _ _ _ => trivial) (fun _ _ _ => trivial) 0
theorem Zih : Fn1 Tryz.prog (.func (.func ZaL) ([] : List Value).toArray ([] : List Value).toArray) TT AB (RBB digB) :=
 Fn1.of (TF := []) (TC := []) (fun b => Z7Y b.toNat) (fun _ _ _ => trivial) (fun _ _ _ => trivial) 0
theorem Z5p (s : ByteArray) (n : Nat) (hn : n ≤ s.size) (hs : s.size ≤ 9223372036854775806) : CallM Tryz.prog Z8e Z1f (sv s n) [] [] (sv s (n + runN isSp (dr s n))) (.is (.tuple #[])) :=
CallM.of (fn := Tryz.f56) Tryz.func56 (n := 32) rfl rfl rfl (fun _ _ => by kernel_rfl) fun E W b0 => by
 repeat apply yQ
 apply yk
 repeat apply yQ
 refine J.loopG (α := Nat) (fun i => [(0, .is (.pointer (some ⟨b0, 0, none⟩)))]) (fun i => [⟨b0, Z1f, .is (sv s i)⟩]) (fun i => fun _ => True) (fun i => i ≤ s.size ∧ i + runN isSp (dr s i) = n + runN isSp (dr s n)) (fun i => s.size - i) n [0] (.cons rfl .nil) rfl (fun _ => trivial) ⟨hn, rfl⟩ fun i ⟨hi, hr⟩ => ?_
 repeat apply yQ
 refine J.reg0 hmx qK qK ?_
 refine yz (Z2 rfl) ?_
 refine yz (Z5 rfl) ?_
 refine yz (Z0 Zg rfl) ?_
 refine yz (Z1 Zt rfl rfl) ?_
 refine yz (Z2 rfl) ?_
 refine yz (Z5 rfl) ?_
 refine yz (Z0 ZO rfl) ?_
 refine yz (Z1 Z9 rfl rfl) ?_
 refine yz (Z4d Zv rfl) ?_
 refine yz (ZW rfl rfl) ?_
 refine yz (Z2 rfl) ?_
 refine yg rfl rfl rfl (fun hg => Z2 (.inl rfl)) ?_
 refine yg rfl rfl rfl (fun hg => Z5 (qR rfl)) ?_
 refine yg rfl rfl rfl (fun hg => Z0 ZO (qR rfl)) ?_
 refine yg rfl rfl rfl (fun hg => Z1 Z9 (qR rfl) rfl) ?_
 refine yg rfl rfl rfl (fun hg => Z2 (.inl rfl)) ?_
 refine yg rfl rfl rfl (fun hg => Z5 (qR rfl)) ?_
 refine yg rfl rfl rfl (fun hg => Z0 Zg (qR rfl)) ?_
 refine yg rfl rfl rfl (fun hg => Z1 Zt (qR rfl) rfl) ?_
 refine yg rfl rfl rfl (fun hg => Z3T Zv (qR rfl) (qR rfl) (by have h := hg; simp only [decide_eq_true_eq] at h; omega) (by have h := hg; simp only [decide_eq_true_eq] at h; omega)) ?_
 refine yg rfl rfl rfl (fun hg => ZL (.inl rfl) (Z9p ⟨#[32, 9, 10, 13]⟩ (sb s i)) (.one (.inl rfl) (.one (qR rfl) .nil))) ?_
 refine yg rfl rfl rfl (fun hg => Z8E (qR rfl) (.inl rfl)) ?_
 refine yz (ZV rfl rfl rfl id) ?_
 apply yn
 refine FinS.nil0 ?_
 refine vS [0, 24] ?_
 refine yC rfl (fun ht24 => ?_) (fun ht24 => ?_)
 try simp only [yd, yf] at ht24
 apply yK
 refine vN ?_
 apply yk
 have hlt : i < s.size := by have h := (Z7G ht24).1; simp only [decide_eq_true_eq] at h; omega
 refine vQ ?_
 refine Jm rfl (Jq (Z5 rfl) ?_)
 refine Jq (Z0 Zg rfl) ?_
 refine Jq (Z1 Zt rfl rfl) ?_
 refine Jq (ZE (cc := ((i + 1 : Nat) : Int)) rfl rfl qM qM qM) ?_
 refine Jq (Z5 rfl) ?_
 refine Jq (Z0 Zg rfl) ?_
 refine JO.m (Zj (cs' := [_, _]) rfl rfl qU rfl rfl rfl rfl Z3F) (by rfl) ?_
 apply yI
 repeat refine JX.normal_block ?_
 refine JX.roundG (x := i) (i + 1) ?_ ?_ [0] ?_ ?_ ?_ ?_
 · exact ⟨by omega, by rw [← hr, ZgT qM (Z7G (show (decide ((i : Int) < s.size) && isSp (by_ s i)) = true by rw [← Ziz]; exact ht24)).2]; omega⟩
 · exact qM
 · exact qS
 · exact qH
 · exact qG
 · exact fun _ _ _ => fun _ _ => trivial
 try simp only [yd, yf] at ht24
 repeat apply yQ
 refine J.exit ?_
 repeat first|refine yH ?_|refine yM rfl ?_|refine yE ?_
 repeat first|apply yX|apply yB
 exact JX.normal_ret (JX.retM0e rfl HasOwn.mem (by rw [← hr, ZdA fun h => by have h2 : (decide ((i : Int) < s.size) && isSp (by_ s i)) = false := (by rw [← Ziz]; exact ht24); simpa [h] using h2]; rfl))
theorem Z5R (p : UInt8 → Bool) (fv : Value) (hf : Fn1 Tryz.prog fv TT AB (RBB p)) (s : ByteArray) (n : Nat) (hn : n ≤ s.size) (hs : s.size ≤ 9223372036854775806) : CallM Tryz.prog Z9o Z1f (sv s n) [] [.rep (FunR fv TT)] (sv s (n + runN p (dr s n))) (.is (.string (s.extract n (n + runN p (dr s n))))) :=
CallM.of (fn := Tryz.f139) Tryz.func139 (n := 50) rfl rfl rfl (fun _ _ => by kernel_rfl) fun E W b0 => by
 refine J.openFun (s := 1) rfl ?_
 refine vQ ?_
 refine Ja rfl ?_
 refine vP [0, 1] ?_
 refine Jm rfl (Jq (Z5 rfl) ?_)
 refine Jq (Z0 Zg rfl) ?_
 refine Jq (Z1 Zt rfl rfl) ?_
 refine Ja rfl ?_
 refine vS [0, 1, 5] ?_
 apply yk
 repeat apply yQ
 refine J.loopG (α := Nat) (fun i => [(0, .is (.pointer (some ⟨b0, 0, none⟩))), (1, .is fv), (5, .is (.int .i64 (n : Int)))]) (fun i => [⟨b0, Z1f, .is (sv s i)⟩]) (fun i => fun _ => True) (fun i => i ≤ s.size ∧ i + runN p (dr s i) = n + runN p (dr s n)) (fun i => s.size - i) n [0, 1, 5] (.cons rfl (.cons rfl (.cons rfl .nil))) rfl (fun _ => trivial) ⟨hn, rfl⟩ fun i ⟨hi, hr⟩ => ?_
 repeat apply yQ
 refine J.reg0 hmx qK qK ?_
 refine yz (Z2 rfl) ?_
 refine yz (Z5 rfl) ?_
 refine yz (Z0 Zg rfl) ?_
 refine yz (Z1 Zt rfl rfl) ?_
 refine yz (Z2 rfl) ?_
 refine yz (Z5 rfl) ?_
 refine yz (Z0 ZO rfl) ?_
 refine yz (Z1 Z9 rfl rfl) ?_
 refine yz (Z4d Zv rfl) ?_
 refine yz (ZW rfl rfl) ?_
 refine yz (Z2 rfl) ?_
 refine yg rfl rfl rfl (fun hg => Z2 (.inl rfl)) ?_
 refine yg rfl rfl rfl (fun hg => Z2 (.inl rfl)) ?_
 refine yg rfl rfl rfl (fun hg => Z5 (qR rfl)) ?_
 refine yg rfl rfl rfl (fun hg => Z0 ZO (qR rfl)) ?_
 refine yg rfl rfl rfl (fun hg => Z1 Z9 (qR rfl) rfl) ?_
 refine yg rfl rfl rfl (fun hg => Z2 (.inl rfl)) ?_
 refine yg rfl rfl rfl (fun hg => Z5 (qR rfl)) ?_
 refine yg rfl rfl rfl (fun hg => Z0 Zg (qR rfl)) ?_
 refine yg rfl rfl rfl (fun hg => Z1 Zt (qR rfl) rfl) ?_
 refine yg rfl rfl rfl (fun hg => Z3T Zv (qR rfl) (qR rfl) (by have h := hg; simp only [decide_eq_true_eq] at h; omega) (by have h := hg; simp only [decide_eq_true_eq] at h; omega)) ?_
 refine yg rfl rfl rfl (fun hg => Zi4 (by_ s i) (qR rfl) hf qI (qR rfl)) ?_
 refine yz (ZV rfl rfl rfl id) ?_
 apply yn
 refine FinS.nil0 ?_
 refine vS [0, 1, 5, 32] ?_
 refine yC rfl (fun ht32 => ?_) (fun ht32 => ?_)
 apply yK
 refine vN ?_
 apply yk
 have hlt : i < s.size := by have h := (Z7G ht32).1; simp only [decide_eq_true_eq] at h; omega
 refine vQ ?_
 refine Jm rfl (Jq (Z5 rfl) ?_)
 refine Jq (Z0 Zg rfl) ?_
 refine Jq (Z1 Zt rfl rfl) ?_
 refine Jq (ZE (cc := ((i + 1 : Nat) : Int)) rfl rfl qM qM qM) ?_
 refine Jq (Z5 rfl) ?_
 refine Jq (Z0 Zg rfl) ?_
 refine JO.m (Zj (cs' := [_, _]) rfl rfl qU rfl rfl rfl rfl Z3F) (by rfl) ?_
 apply yI
 repeat refine JX.normal_block ?_
 refine JX.roundG (x := i) (i + 1) ?_ ?_ [0, 1, 5] ?_ ?_ ?_ ?_
 · exact ⟨by omega, by rw [← hr, ZgT qM (Z7G (show (decide ((i : Int) < s.size) && p (by_ s i)) = true from ht32)).2]; omega⟩
 · exact qM
 · exact qS
 · exact qH
 · exact qG
 · exact fun _ _ _ => fun _ _ => trivial
 repeat apply yQ
 refine J.exit ?_
 repeat first|refine yH ?_|refine yM rfl ?_|refine yE ?_
 repeat first|apply yX|apply yB
 have he : i = n + runN p (dr s n) := by rw [← hr, ZdA fun h => by have h2 : (decide ((i : Int) < s.size) && p (by_ s i)) = false := ht32; simpa [h] using h2]; rfl
 have hni : n ≤ i := by omega
 repeat apply yQ
 refine J.reg0 hmx qK qK ?_
 refine yz (Z2 rfl) ?_
 refine yz (Z5 rfl) ?_
 refine yz (Z0 ZO rfl) ?_
 refine yz (Z1 Z9 rfl rfl) ?_
 refine yz (Z2 rfl) ?_
 refine yz (Z2 rfl) ?_
 refine yz (Z5 rfl) ?_
 refine yz (Z0 Zg rfl) ?_
 refine yz (Z1 Zt rfl rfl) ?_
 refine yz (Z9Y Zv rfl rfl rfl qM qM qM) ?_
 refine yz (Z1s rfl) ?_
 apply yn
 refine FinS.nil0 ?_
 refine vS [4] ?_
 refine vR ?_
 exact JX.retM1e rfl HasOwn.mem rfl (by rw [he]; rfl) (by rw [he])
end Go.Proofs.YtbedigkncjbggaaGreatDoor
set_option maxRecDepth 20000
namespace Go.Proofs.YtbedigkncjbggaaGreatDoor
open Go Go.Vc
theorem ZiM (p : UInt8 → Bool) (s : ByteArray) (i : Nat) : headP p (dr s i) = (decide ((i : Int) < s.size) && p (by_ s i)) := by
 by_cases h : i < s.size
 · rw [Z3p h, headP, decide_eq_true qM, Bool.true_and]
 · rw [Z9v qM, headP, decide_eq_false qM, Bool.false_and]
theorem Zhv {s : ByteArray} {n : Nat} (hn : n < s.size) (q : Nat) : tryL (dr s n) q = (decide (((n + q : Nat) : Int) ≤ s.size) && Lib.contains sgB.data.toList ((sp1 ++ s.extract n (n + q)) ++ sp1).data.toList) := by
 unfold tryL
 rw [Z7h, Z1E, Z9G]
 congr 1
 exact decide_eq_decide.2 ⟨fun h => by omega, fun h => by omega⟩
theorem ZkV {l : List UInt8} {i : Nat} (h : i < l.length) : l[i]? = some (l.getD i 0) := by simp [h]
theorem Zcy {α : Type} (f : α → UInt8 → α) {a : α} {l : List UInt8} {k : Nat} (h : k < l.length) : (l.take (k + 1)).foldl f a = f ((l.take k).foldl f a) (l.getD k 0) := by
 rw [List.take_add_one, List.foldl_append]
 simp [h]
theorem Z8T (s : ByteArray) (n : Nat) (hn : n < s.size) (hs : s.size ≤ 2048) : CallM Tryz.prog Z5O Z1f (sv s n) [GF] [] (sv s (n + runN wordB (dr s n))) (.tup2 (.is (tv (wordL ((dr s n).take (runN wordB (dr s n)))).1)) (.is (.int .i64 (wordL ((dr s n).take (runN wordB (dr s n)))).2))) :=
CallM.of (fn := Tryz.f99) Tryz.func99 (n := 23) rfl rfl rfl (fun _ _ => by kernel_rfl) fun E W b0 => by
 refine vQ ?_
 refine JO.alloc Z2F rfl fun b2 => ?_
 refine Ja rfl ?_
 refine vP [0, 2] ?_
 refine Jm rfl ?_
 refine JO.md (Z9c rfl rfl (Z5R wordB _ ZjT s n qM qM) qU (by simp) (.sub rfl (Sub.funT (fun _ => trivial)) .nil)) (by rfl) rfl ?_
 refine Ja rfl ?_
 refine vP [2, 4] ?_
 refine Jm rfl (Jq (ZL rfl (Z6K (s.extract n (n + runN wordB (dr s n))) (by have h1 := Z65 s n (runN wordB (dr s n)); omega) (ZcE s n)) qA) ?_)
 refine Ja rfl ?_
 refine vP [2, 4, 5] ?_
 refine Jm rfl (Jq (Z61 rfl rfl (Zf4 (by show (bl (Lib.toUpperA (s.extract n (n + runN wordB (dr s n))).data.toList)).size ≤ 2048; rw [Z4b, Zcd, Z1q]; have h1 := Z65 s n (runN wordB (dr s n)); omega))) ?_)
 refine Jq (Z61 rfl rfl (ZeX (by show (bl (Lib.toUpperA (s.extract n (n + runN wordB (dr s n))).data.toList)).size ≤ 2048; rw [Z4b, Zcd, Z1q]; have h1 := Z65 s n (runN wordB (dr s n)); omega))) ?_
 refine Jq (ZG rfl (Z6v kwB _ qD) (by simp) (.one rfl (.one rfl .nil))) ?_
 refine vS [2, 4, 5, 13] ?_
 refine yC rfl (fun ht13 => ?_) (fun ht13 => ?_)
 refine vQ ?_
 refine Jm rfl (Jq (ZB (cs := [_, _, _]) Z1A (.cons rfl (.cons rfl .nil)) rfl rfl) ?_)
 refine JO.m (Z3 rfl rfl qU qC qO Z1h) (by rfl) ?_
 refine Ja rfl ?_
 refine vS [2, 3] ?_
 refine vR ?_
 exact JX.retMC1is rfl HasOwn.mem rfl Z15 HasOwn.mem rfl rfl (by have hc : (Lib.contains kwB.data.toList ((sp1 ++ ⟨(Lib.toUpperA (s.extract n (n + runN wordB (dr s n))).data.toList).toArray⟩) ++ sp1).data.toList) = Lib.contains kwB.data.toList (padL (Lib.toUpperA ((dr s n).take (runN wordB (dr s n))))) := (by rw [Z7h, Z4c, Z1E]); rw [hc] at ht13; unfold wordL; rw [if_pos ht13, Z1E]) (by have hc : (Lib.contains kwB.data.toList ((sp1 ++ ⟨(Lib.toUpperA (s.extract n (n + runN wordB (dr s n))).data.toList).toArray⟩) ++ sp1).data.toList) = Lib.contains kwB.data.toList (padL (Lib.toUpperA ((dr s n).take (runN wordB (dr s n))))) := (by rw [Z7h, Z4c, Z1E]); rw [hc] at ht13; unfold wordL; rw [if_pos ht13]) (by rfl)
 apply yK
 refine vN ?_
 apply yN
 refine Jm rfl (Jq (Z4d Zv rfl) ?_)
 refine Jq (Z2i rfl rfl) ?_
 refine vS [2, 4, 18] ?_
 refine yC rfl (fun ht18 => ?_) (fun ht18 => ?_)
 try simp only [yd, yf] at ht18
 refine vQ ?_
 refine Jq (ZB (cs := [_, _, _]) Z1A .nil rfl rfl) ?_
 refine JO.m (Z3 rfl rfl qU qC qO Z1h) (by rfl) ?_
 refine Ja rfl ?_
 refine vS [2, 3] ?_
 refine vR ?_
 exact JX.retMC1is rfl HasOwn.mem rfl Z15 HasOwn.mem rfl rfl (by have hc : (Lib.contains kwB.data.toList ((sp1 ++ ⟨(Lib.toUpperA (s.extract n (n + runN wordB (dr s n))).data.toList).toArray⟩) ++ sp1).data.toList) = Lib.contains kwB.data.toList (padL (Lib.toUpperA ((dr s n).take (runN wordB (dr s n))))) := (by rw [Z7h, Z4c, Z1E]); rw [hc] at ht13; have hl : ((s.extract n (n + runN wordB (dr s n))).size : Int) = (((dr s n).take (runN wordB (dr s n))).length : Int) := (by rw [← Z1q, Z1E]); rw [hl] at ht18; unfold wordL; rw [if_neg (by rw [ht13]; simp), if_pos (decide_eq_true ht18)]; rfl) (by have hc : (Lib.contains kwB.data.toList ((sp1 ++ ⟨(Lib.toUpperA (s.extract n (n + runN wordB (dr s n))).data.toList).toArray⟩) ++ sp1).data.toList) = Lib.contains kwB.data.toList (padL (Lib.toUpperA ((dr s n).take (runN wordB (dr s n))))) := (by rw [Z7h, Z4c, Z1E]); rw [hc] at ht13; have hl : ((s.extract n (n + runN wordB (dr s n))).size : Int) = (((dr s n).take (runN wordB (dr s n))).length : Int) := (by rw [← Z1q, Z1E]); rw [hl] at ht18; unfold wordL; rw [if_neg (by rw [ht13]; simp), if_pos (decide_eq_true ht18)]) (by rfl)
 try simp only [yd, yf] at ht18
 apply yK
 refine vN ?_
 apply yN
 refine Jm rfl (Jq (ZL rfl (Zav (s.extract n (n + runN wordB (dr s n))) (by have h1 := Z65 s n (runN wordB (dr s n)); omega) (ZcE s n)) qA) ?_)
 refine Jq (ZB (cs := [_, _, _]) Z1A (.cons rfl (.cons rfl .nil)) rfl rfl) ?_
 refine JO.m (Z3 rfl rfl qU qC qO Z1h) (by rfl) ?_
 refine Ja rfl ?_
 refine vS [2, 3] ?_
 refine vR ?_
 exact JX.retMC1is rfl HasOwn.mem rfl Z15 HasOwn.mem rfl rfl (by have hc : (Lib.contains kwB.data.toList ((sp1 ++ ⟨(Lib.toUpperA (s.extract n (n + runN wordB (dr s n))).data.toList).toArray⟩) ++ sp1).data.toList) = Lib.contains kwB.data.toList (padL (Lib.toUpperA ((dr s n).take (runN wordB (dr s n))))) := (by rw [Z7h, Z4c, Z1E]); rw [hc] at ht13; have hl : ((s.extract n (n + runN wordB (dr s n))).size : Int) = (((dr s n).take (runN wordB (dr s n))).length : Int) := (by rw [← Z1q, Z1E]); rw [hl] at ht18; unfold wordL; rw [if_neg (by rw [ht13]; simp), if_neg (by rw [decide_eq_false ht18]; simp), Z1E]) (by have hc : (Lib.contains kwB.data.toList ((sp1 ++ ⟨(Lib.toUpperA (s.extract n (n + runN wordB (dr s n))).data.toList).toArray⟩) ++ sp1).data.toList) = Lib.contains kwB.data.toList (padL (Lib.toUpperA ((dr s n).take (runN wordB (dr s n))))) := (by rw [Z7h, Z4c, Z1E]); rw [hc] at ht13; have hl : ((s.extract n (n + runN wordB (dr s n))).size : Int) = (((dr s n).take (runN wordB (dr s n))).length : Int) := (by rw [← Z1q, Z1E]); rw [hl] at ht18; unfold wordL; rw [if_neg (by rw [ht13]; simp), if_neg (by rw [decide_eq_false ht18]; simp)]) (by rfl)
theorem Z7W (s : ByteArray) (n : Nat) (hn : n < s.size) (hs : s.size ≤ 2048) : CallM Tryz.prog Z4V Z1f (sv s n) [GF] [] (sv s (n + runN digB (dr s n))) (.tup2 (.is (tv (numL (dr s n)).1)) (.is (.int .i64 (numL (dr s n)).2))) :=
CallM.of (fn := Tryz.f101) Tryz.func101 (n := 58) rfl rfl rfl (fun _ _ => by kernel_rfl) fun E W b0 => by
 refine vQ ?_
 refine JO.alloc Z2F rfl fun b2 => ?_
 refine Ja rfl ?_
 refine vP [0, 2] ?_
 refine Ja rfl (Ja rfl ?_)
 refine vS [0, 2, 4, 5] ?_
 have hbl : ((dr s n).take (runN digB (dr s n))).length ≤ 2048 := by rw [List.length_take, Z9G]; omega
 refine vQ ?_
 refine Jm rfl ?_
 refine JO.md (Z9c rfl rfl (Z5R digB _ Zih s n qM qM) qU (by simp) (.sub rfl (Sub.funT (fun _ => trivial)) .nil)) (by rfl) rfl ?_
 refine Jq (ZhY Zv Z4a ZaY rfl) ?_
 refine JO.openSl (s := 11) rfl (fun a len cap bb bo hlen ha => ?_)
 have hlen2 : ((dr s n).take (runN digB (dr s n))).length = len := (by rw [← hlen, Z1E])
 subst hlen2
 refine Jq (Zo Z4a rfl) ?_
 refine Jm rfl ?_
 refine vS [0, 2, 4, 5, 11, 12, 13] ?_
 apply yk
 repeat apply yQ
 refine J.loopG (α := Nat × Int × Int) (fun z => [(0, .is (.pointer (some ⟨b0, 0, none⟩))), (2, .is (.pointer (some ⟨b2, 0, none⟩))), (4, .is (.int .i64 z.2.1)), (5, .is (.int .i64 z.2.2)), (11, .is (.slice a ((dr s n).take (runN digB (dr s n))).length cap)), (12, .is (.int .i64 (((dr s n).take (runN digB (dr s n))).length : Nat))), (13, .is (.int .i64 (z.1 : Nat)))]) (fun z => [⟨b2, Z2p, .is (tv t3D)⟩, ⟨b0, Z1f, .is (sv s (n + runN digB (dr s n)))⟩]) (fun z => fun _ => True) (fun z => z.1 ≤ ((dr s n).take (runN digB (dr s n))).length ∧ (((dr s n).take (runN digB (dr s n))).take z.1).foldl numStep (0, 0) = z.2) (fun z => ((dr s n).take (runN digB (dr s n))).length - z.1) (0, 0, 0) [0, 2, 4, 5, 11, 12, 13] (.cons rfl (.cons rfl (.cons rfl (.cons rfl (.cons rfl (.cons rfl (.cons rfl .nil))))))) rfl (fun _ => trivial) ⟨by omega, rfl⟩ fun ⟨k, m, e⟩ ⟨hk, hf⟩ => ?_
 try dsimp only
 try dsimp only at hk
 try dsimp only at hf
 refine vQ ?_
 refine Jq (ZW rfl rfl) ?_
 refine vS [0, 2, 4, 5, 11, 12, 13, 14] ?_
 refine yC rfl (fun ht14 => ?_) (fun ht14 => ?_)
 try simp only [yd, yf] at ht14
 apply yK
 refine vN ?_
 apply yk
 refine vQ ?_
 refine Jq (Z7 Zer rfl (ha qM) rfl qM qM) ?_
 refine Jq (ZJ (enc := bC) (sz := 1) (xs := (s.extract n (n + runN digB (dr s n))).data.toList) (len := ((dr s n).take (runN digB (dr s n))).length) (i := k) (j := 0) (y := ((dr s n).take (runN digB (dr s n))).getD k 0) Zin rfl qI (ha qM) (by rw [Z1E]; exact ZkV qM) (by simp) rfl) ?_
 refine Ja rfl ?_
 refine vP [0, 2, 4, 5, 7, 11, 12, 13] ?_
 refine Jm rfl (Jq (Zbs rfl rfl) ?_)
 refine Jq (ZgB ⟨_, ZaY⟩ Zi0 rfl) ?_
 refine Ja rfl ?_
 refine vP [0, 2, 4, 5, 8, 11, 12, 13] ?_
 refine Jm rfl (Jm rfl (Jq (Zbs rfl rfl) ?_))
 refine Jq (ZkG rfl rfl qD) ?_
 refine Jq (Z2i rfl rfl) ?_
 refine vS [0, 2, 4, 5, 8, 11, 12, 13, 24] ?_
 refine yC rfl (fun ht24 => ?_) (fun ht24 => ?_)
 try simp only [yd, yf] at ht24
 refine vQ ?_
 refine Ja rfl ?_
 refine vP [0, 2, 4, 5, 8, 11, 12, 13] ?_
 refine Jm rfl (Jq (Zhh rfl rfl) ?_)
 refine Jm rfl (Jq (ZbF rfl rfl) ?_)
 refine Ja rfl ?_
 refine vP [0, 2, 4, 5, 11, 12, 13] ?_
 refine Jq (ZE (cc := ((k + 1 : Nat) : Int)) rfl rfl qM qM qM) ?_
 refine Jm rfl ?_
 apply yI
 repeat refine JX.normal_block ?_
 refine JX.roundG (x := ⟨k, m, e⟩) (k + 1, (numStep (m, e) (((dr s n).take (runN digB (dr s n))).getD k 0)).1, 35) ?_ ?_ [0, 2, 4, 5, 11, 12, 13] ?_ ?_ ?_ ?_
 · exact ⟨by omega, by rw [Zcy numStep qM, hf]; simp only [numStep]; rw [if_pos (decide_eq_true ht24)]⟩
 · exact (by simp only; omega)
 · exact qS
 · exact qH
 · exact qG
 · exact fun _ _ _ => fun _ _ => trivial
 try simp only [yd, yf] at ht24
 apply yK
 refine vN ?_
 apply yN
 refine Jm rfl (Jq (Zhh rfl rfl) ?_)
 refine Jm rfl (Jq (ZbF rfl rfl) ?_)
 refine Ja rfl ?_
 refine vP [0, 2, 4, 5, 11, 12, 13] ?_
 refine Jq (ZE (cc := ((k + 1 : Nat) : Int)) rfl rfl qM qM qM) ?_
 refine Jm rfl ?_
 apply yI
 repeat refine JX.normal_block ?_
 refine JX.roundG (x := ⟨k, m, e⟩) (k + 1, (numStep (m, e) (((dr s n).take (runN digB (dr s n))).getD k 0)).1, e) ?_ ?_ [0, 2, 4, 5, 11, 12, 13] ?_ ?_ ?_ ?_
 · exact ⟨by omega, by rw [Zcy numStep qM, hf]; simp only [numStep]; rw [if_neg (by rw [decide_eq_false ht24]; simp)]⟩
 · exact (by simp only; omega)
 · exact qS
 · exact qH
 · exact qG
 · exact fun _ _ _ => fun _ _ => trivial
 try simp only [yd, yf] at ht14
 repeat apply yQ
 refine J.exit ?_
 repeat first|refine yH ?_|refine yM rfl ?_|refine yE ?_
 repeat first|apply yX|apply yB
 have hfe : ((dr s n).take (runN digB (dr s n))).foldl numStep (0, 0) = (m, e) := (by have h1 : ((dr s n).take (runN digB (dr s n))).take k = ((dr s n).take (runN digB (dr s n))) := List.take_of_length_le qM; rw [h1] at hf; exact hf)
 have hh : headP letB ((dr s n).drop (runN digB (dr s n))) = (decide (((n + runN digB (dr s n) : Nat) : Int) < s.size) && letterF (sb s (n + runN digB (dr s n)))) := by rw [Z8p]; exact ZiM letB s _
 repeat apply yQ
 refine J.reg0 hmx qK qK ?_
 refine yz (Z2 rfl) ?_
 refine yz (Z5 rfl) ?_
 refine yz (Z0 Zg rfl) ?_
 refine yz (Z1 Zt rfl rfl) ?_
 refine yz (Z2 rfl) ?_
 refine yz (Z5 rfl) ?_
 refine yz (Z0 ZO rfl) ?_
 refine yz (Z1 Z9 rfl rfl) ?_
 refine yz (Z4d Zv rfl) ?_
 refine yz (ZW rfl rfl) ?_
 refine yz (Z2 rfl) ?_
 refine yg rfl rfl rfl (fun hg => Z2 (.inl rfl)) ?_
 refine yg rfl rfl rfl (fun hg => Z5 (qR rfl)) ?_
 refine yg rfl rfl rfl (fun hg => Z0 ZO (qR rfl)) ?_
 refine yg rfl rfl rfl (fun hg => Z1 Z9 (qR rfl) rfl) ?_
 refine yg rfl rfl rfl (fun hg => Z2 (.inl rfl)) ?_
 refine yg rfl rfl rfl (fun hg => Z5 (qR rfl)) ?_
 refine yg rfl rfl rfl (fun hg => Z0 Zg (qR rfl)) ?_
 refine yg rfl rfl rfl (fun hg => Z1 Zt (qR rfl) rfl) ?_
 refine yg rfl rfl rfl (fun hg => Z3T Zv (qR rfl) (qR rfl) (by have h := hg; simp only [decide_eq_true_eq] at h; omega) (by have h := hg; simp only [decide_eq_true_eq] at h; omega)) ?_
 refine yg rfl rfl rfl (fun hg => ZL (.inl rfl) (Z7i (sb s (n + runN digB (dr s n)))) (.one (qR rfl) .nil)) ?_
 refine yz (ZV rfl rfl rfl id) ?_
 apply yn
 refine FinS.nil0 ?_
 refine vS [2, 4, 5, 51] ?_
 refine yC rfl (fun ht51 => ?_) (fun ht51 => ?_)
 refine vQ ?_
 refine Ja rfl ?_
 refine vP [2, 4, 5] ?_
 refine Jm rfl (Jq (Z25 rfl rfl) ?_)
 refine vS [2, 4, 5, 53] ?_
 refine yC rfl (fun ht53 => ?_) (fun ht53 => ?_)
 refine vQ ?_
 refine Jq (ZB (cs := [_, _, _]) Z1A .nil rfl rfl) ?_
 refine Jm rfl ?_
 refine JO.m (Z3 rfl rfl qU qC qO Z1h) (by rfl) ?_
 refine Ja rfl ?_
 refine vS [2, 3] ?_
 refine vR ?_
 exact JX.retMC1is rfl HasOwn.mem rfl Z15 HasOwn.mem rfl rfl (by have hE : numE (dr s n) = 30 := (by unfold numE; rw [hh]; rw [if_pos ht51]); unfold numL; rw [hE, if_pos ht53]; rfl) (by have hE : numE (dr s n) = 30 := (by unfold numE; rw [hh]; rw [if_pos ht51]); unfold numL; rw [hE, if_pos ht53]) (by rfl)
 apply yK
 refine vN ?_
 apply yN
 refine Jm rfl (Jq (ZB (cs := [_, _, _]) Z1A (.cons rfl (.cons rfl .nil)) rfl rfl) ?_)
 refine JO.m (Z3 rfl rfl qU qC qO Z1h) (by rfl) ?_
 refine Ja rfl ?_
 refine vS [2, 3] ?_
 refine vR ?_
 exact JX.retMC1is rfl HasOwn.mem rfl Z15 HasOwn.mem rfl rfl (by have hE : numE (dr s n) = 30 := (by unfold numE; rw [hh]; rw [if_pos ht51]); unfold numL; rw [hE, if_neg (by rw [ht53]; simp), hfe]) (by have hE : numE (dr s n) = 30 := (by unfold numE; rw [hh]; rw [if_pos ht51]); unfold numL; rw [hE, if_neg (by rw [ht53]; simp)]) (by rfl)
 apply yK
 refine vN ?_
 apply yN
 refine Jm rfl (Jq (Z25 rfl rfl) ?_)
 refine vS [2, 4, 5, 53] ?_
 refine yC rfl (fun ht53 => ?_) (fun ht53 => ?_)
 refine vQ ?_
 refine Jq (ZB (cs := [_, _, _]) Z1A .nil rfl rfl) ?_
 refine Jm rfl ?_
 refine JO.m (Z3 rfl rfl qU qC qO Z1h) (by rfl) ?_
 refine Ja rfl ?_
 refine vS [2, 3] ?_
 refine vR ?_
 exact JX.retMC1is rfl HasOwn.mem rfl Z15 HasOwn.mem rfl rfl (by have hE : numE (dr s n) = e := (by unfold numE; rw [hh]; rw [if_neg (by rw [ht51]; simp), hfe]); unfold numL; rw [hE, if_pos ht53]; rfl) (by have hE : numE (dr s n) = e := (by unfold numE; rw [hh]; rw [if_neg (by rw [ht51]; simp), hfe]); unfold numL; rw [hE, if_pos ht53]) (by rfl)
 apply yK
 refine vN ?_
 apply yN
 refine Jm rfl (Jq (ZB (cs := [_, _, _]) Z1A (.cons rfl (.cons rfl .nil)) rfl rfl) ?_)
 refine JO.m (Z3 rfl rfl qU qC qO Z1h) (by rfl) ?_
 refine Ja rfl ?_
 refine vS [2, 3] ?_
 refine vR ?_
 exact JX.retMC1is rfl HasOwn.mem rfl Z15 HasOwn.mem rfl rfl (by have hE : numE (dr s n) = e := (by unfold numE; rw [hh]; rw [if_neg (by rw [ht51]; simp), hfe]); unfold numL; rw [hE, if_neg (by rw [ht53]; simp), hfe]) (by have hE : numE (dr s n) = e := (by unfold numE; rw [hh]; rw [if_neg (by rw [ht51]; simp), hfe]); unfold numL; rw [hE, if_neg (by rw [ht53]; simp)]) (by rfl)
theorem Z98 (s : ByteArray) (n : Nat) (hn : n < s.size) (hs : s.size ≤ 2048) : CallM Tryz.prog Z5N Z1f (sv s n) [GF] [] (sv s (n + (signL (dr s n)).2)) (.tup2 (.is (tv (signL (dr s n)).1.1)) (.is (.int .i64 (signL (dr s n)).1.2))) :=
CallM.of (fn := Tryz.f103) Tryz.func103 (n := 66) rfl rfl rfl (fun _ _ => by kernel_rfl) fun E W b0 => by
 refine vQ ?_
 refine JO.alloc Z2F rfl fun b2 => ?_
 refine Ja rfl ?_
 refine vP [0, 2] ?_
 refine Ja rfl ?_
 refine vS [0, 2, 4] ?_
 apply yk
 repeat apply yQ
 refine J.loopG (α := Nat) (fun q => [(0, .is (.pointer (some ⟨b0, 0, none⟩))), (2, .is (.pointer (some ⟨b2, 0, none⟩))), (4, .is (.int .i64 (q : Nat)))]) (fun q => [⟨b2, Z2p, .is (tv t3D)⟩, ⟨b0, Z1f, .is (sv s n)⟩]) (fun q => fun _ => True) (fun q => q ≤ 2 ∧ (q < 2 → tryL (dr s n) 2 = false) ∧ (q < 1 → tryL (dr s n) 1 = false)) (fun q => q) 2 [0, 2, 4] (.cons rfl (.cons rfl (.cons rfl .nil))) rfl (fun _ => trivial) ⟨by omega, fun h => absurd h qM, fun h => absurd h qM⟩ fun q ⟨hq, h2, h1⟩ => ?_
 refine vQ ?_
 refine Jm rfl (Jq (Z2i rfl rfl) ?_)
 refine vS [0, 2, 4, 6] ?_
 refine yC rfl (fun ht6 => ?_) (fun ht6 => ?_)
 try simp only [yd, yf] at ht6
 apply yK
 refine vN ?_
 apply yk
 repeat apply yQ
 refine J.reg0 hmx qK qK ?_
 refine yz (Z2 rfl) ?_
 refine yz (Z5 rfl) ?_
 refine yz (Z0 Zg rfl) ?_
 refine yz (Z1 Zt rfl rfl) ?_
 refine yz (Z2 rfl) ?_
 refine yz (ZE (cc := ((n + q : Nat) : Int)) rfl rfl qM qM qM) ?_
 refine yz (Z2 rfl) ?_
 refine yz (Z5 rfl) ?_
 refine yz (Z0 ZO rfl) ?_
 refine yz (Z1 Z9 rfl rfl) ?_
 refine yz (Z4d Zv rfl) ?_
 refine yz (Z44 rfl rfl) ?_
 refine yz (Z2 rfl) ?_
 refine yg rfl rfl rfl (fun hg => Z2 (.inl rfl)) ?_
 refine yg rfl rfl rfl (fun hg => Z5 (qR rfl)) ?_
 refine yg rfl rfl rfl (fun hg => Z0 ZO (qR rfl)) ?_
 refine yg rfl rfl rfl (fun hg => Z1 Z9 (qR rfl) rfl) ?_
 refine yg rfl rfl rfl (fun hg => Z2 (.inl rfl)) ?_
 refine yg rfl rfl rfl (fun hg => Z5 (qR rfl)) ?_
 refine yg rfl rfl rfl (fun hg => Z0 Zg (qR rfl)) ?_
 refine yg rfl rfl rfl (fun hg => Z1 Zt (qR rfl) rfl) ?_
 refine yg rfl rfl rfl (fun hg => Z2 (.inl rfl)) ?_
 refine yg rfl rfl rfl (fun hg => Z5 (qR rfl)) ?_
 refine yg rfl rfl rfl (fun hg => Z0 Zg (qR rfl)) ?_
 refine yg rfl rfl rfl (fun hg => Z1 Zt (qR rfl) rfl) ?_
 refine yg rfl rfl rfl (fun hg => Z2 (.inl rfl)) ?_
 refine yg rfl rfl rfl (fun hg => ZE (cc := ((n + q : Nat) : Int)) (qR rfl) (qR rfl) qM qM qM) ?_
 refine yg rfl rfl rfl (fun hg => Z9Y Zv (qR rfl) (qR rfl) (qR rfl) qM qM (by have h := hg; simp only [decide_eq_true_eq] at h; omega)) ?_
 refine yg rfl rfl rfl (fun hg => Z61 (.inl rfl) (qR rfl) (Zf4 (by have h1 := Z65 s n q; show (s.extract n (n + q)).size ≤ 2048; omega))) ?_
 refine yg rfl rfl rfl (fun hg => Z61 (qR rfl) (.inl rfl) (ZeX (by have h1 := Z65 s n q; show (s.extract n (n + q)).size ≤ 2048; omega))) ?_
 refine yg rfl rfl rfl (fun hg => ZG (.inl rfl) (Z6v sgB ((sp1 ++ s.extract n (n + q)) ++ sp1) qD) (by simp) (.one (.inl rfl) (.one (qR rfl) .nil))) ?_
 refine yz (ZV rfl rfl rfl id) ?_
 apply yn
 refine FinS.nil0 ?_
 refine vS [0, 2, 4, 40] ?_
 refine yC rfl (fun ht40 => ?_) (fun ht40 => ?_)
 have ht1 : tryL (dr s n) q = true := (Zhv hn q).trans ht40
 have hsg : signL (dr s n) = ((⟨5, bl ((dr s n).take q), 0⟩, 0), q) := by
   unfold signL
   rcases (show q = 1 ∨ q = 2 by omega) with rfl|rfl
   · rw [if_neg (by rw [h2 qM]; simp), if_pos ht1]
   · rw [if_pos ht1]
 have hfit : n + q ≤ s.size := by have h := ht40; simp only [Bool.and_eq_true, decide_eq_true_eq] at h; omega
 refine vQ ?_
 refine Jm rfl (Jq (Z5 rfl) ?_)
 refine Jq (Z0 Zg rfl) ?_
 refine Jq (Z1 Zt rfl rfl) ?_
 refine Jm rfl (Jq (ZE (cc := ((n + q : Nat) : Int)) rfl rfl qM qM qM) ?_)
 refine Jq (Z5 rfl) ?_
 refine Jq (Z0 Zg rfl) ?_
 refine JO.m (Zj (cs' := [_, _]) rfl rfl qU rfl rfl rfl rfl Z3F) (by rfl) ?_
 refine vS [0, 2, 4] ?_
 refine J.front b2 (by repeat (first|exact .here|apply Front.there)) ?_
 refine J.reg1 hmx qK qK ?_
 refine yz (Z2 rfl) ?_
 refine yz (Z5 rfl) ?_
 refine yz (Z0 ZO rfl) ?_
 refine yz (Z1 Z9 rfl rfl) ?_
 refine yz (Z2 rfl) ?_
 refine yz (Z5 rfl) ?_
 refine yz (Z0 Zg rfl) ?_
 refine yz (Z1 Zt rfl rfl) ?_
 refine yz (Z2 rfl) ?_
 refine yz (Zf6 (cc := (n : Int)) rfl rfl qM qM qM) ?_
 refine yz (Z2 rfl) ?_
 refine yz (Z5 rfl) ?_
 refine yz (Z0 Zg rfl) ?_
 refine yz (Z1 Zt rfl rfl) ?_
 refine yz (Z9Y Zv rfl rfl rfl qM qM qM) ?_
 refine yz (ZB (cs := [_, _, _]) Z1A (.cons rfl (.cons rfl .nil)) rfl rfl) ?_
 refine RT.m rfl (Z3 rfl rfl qU qC qO Z1h) (by rfl) ?_
 refine yz (Z1s rfl) ?_
 apply yn
 refine FinS.nil1 ?_
 refine vS [2, 3] ?_
 refine vR ?_
 exact JX.retMC1is rfl HasOwn.mem rfl Z15 HasOwn.mem rfl rfl (by rw [hsg]; show Value.agg #[.int .i64 5, .string (s.extract n (n + q)), .int .i64 0] = _; rw [ZgK]) (by rw [hsg]) (by rw [hsg])
 apply yK
 repeat first|apply yX|apply yB
 have ht2 : tryL (dr s n) q = false := (Zhv hn q).trans ht40
 refine vQ ?_
 refine Jm rfl (Jq (Zf6 (cc := ((q - 1 : Nat) : Int)) rfl rfl qM qM qM) ?_)
 refine Ja rfl ?_
 apply yI
 repeat refine JX.normal_block ?_
 refine JX.roundG (x := q) (q - 1) ?_ ?_ [0, 2, 4] ?_ ?_ ?_ ?_
 · exact ⟨by omega, fun h => (by rcases (show q = 1 ∨ q = 2 by omega) with rfl|rfl; exact h2 qM; exact ht2), fun h => (by have : q = 1 := qM; subst this; exact ht2)⟩
 · exact qM
 · exact qS
 · exact qH
 · exact qG
 · exact fun _ _ _ => fun _ _ => trivial
 try simp only [yd, yf] at ht6
 repeat apply yQ
 refine J.exit ?_
 repeat first|refine yH ?_|refine yM rfl ?_|refine yE ?_
 repeat first|apply yX|apply yB
 have hsg : signL (dr s n) = ((t3D, 30), 0) := by unfold signL; rw [if_neg (by rw [h2 qM]; simp), if_neg (by rw [h1 qM]; simp)]
 refine vQ ?_
 refine Jq (ZB (cs := [_, _, _]) Z1A .nil rfl rfl) ?_
 refine JO.m (Z3 rfl rfl qU qC qO Z1h) (by rfl) ?_
 refine Ja rfl ?_
 refine vS [2, 3] ?_
 refine vR ?_
 exact JX.retMC1is rfl HasOwn.mem rfl Z15 HasOwn.mem rfl rfl (by rw [hsg]; rfl) (by rw [hsg]) (by rw [hsg]; rfl)
end Go.Proofs.YtbedigkncjbggaaGreatDoor
set_option maxRecDepth 20000
namespace Go.Proofs.YtbedigkncjbggaaGreatDoor
open Go Go.Vc
theorem q39 (b : UInt8) : ((b.toNat : Int) == 39) = (b == 39) := by
 have h1 : (39 : UInt8).toNat = 39 := rfl
 refine Bool.eq_iff_iff.2 ⟨fun h => ?_, fun h => ?_⟩
 · have h : (b.toNat : Int) = 39 := by simpa using h
   have : b = 39 := UInt8.toNat_inj.1 (by rw [h1]; omega)
   simp [this]
 · have h : b = 39 := by simpa using h
   subst h
   rfl
theorem Zif {s : ByteArray} {i : Nat} (h : s.size ≤ i) (acc : List UInt8) : textL (dr s i) acc = ((t3D, 30), 0) := by rw [Z9v h]; rfl
theorem Z4N (b : UInt8) (l acc : List UInt8) (hb : (b == 39) = false) : textL (b :: l) acc = ((textL l (acc ++ [b])).1, (textL l (acc ++ [b])).2 + 1) := by
 cases l with
 | nil => simp [textL, hb]
 | cons c l => rw [textL, if_neg (by rw [hb]; simp)]
theorem Zjc {s : ByteArray} {i : Nat} (h : i < s.size) (acc : List UInt8) (hb : (by_ s i == 39) = false) : textL (dr s i) acc = ((textL (dr s (i + 1)) (acc ++ [by_ s i])).1, (textL (dr s (i + 1)) (acc ++ [by_ s i])).2 + 1) := by
 rw [Z3p h, Z4N _ _ _ hb]
theorem Zii {s : ByteArray} {i : Nat} (h : i + 1 < s.size) (acc : List UInt8) (hb : (by_ s i == 39) = true) (hc : (by_ s (i + 1) == 39) = true) :
  textL (dr s i) acc = ((textL (dr s (i + 1 + 1)) (acc ++ [by_ s (i + 1)])).1, (textL (dr s (i + 1 + 1)) (acc ++ [by_ s (i + 1)])).2 + 2) := by
 rw [Z3p (by omega : i < s.size), Z3p h, textL, if_pos hb, if_neg (by simp [bne, hc])]
theorem Zi1 {s : ByteArray} {i : Nat} (h : i < s.size) (acc : List UInt8) (hb : (by_ s i == 39) = true) (hc : (((i + 1 : Nat) : Int) == (s.size : Int) || !(by_ s (i + 1) == 39)) = true) : textL (dr s i) acc = (endT acc, 1) := by
 by_cases h1 : i + 1 < s.size
 · have hc : (by_ s (i + 1) == 39) = false := by
     rw [beq_eq_false_iff_ne.2 qM, Bool.false_or] at hc
     simpa using hc
   rw [Z3p h, Z3p h1, textL, if_pos hb, if_pos (by simp [bne, hc])]
 · rw [Z3p h, Z9v qM, textL, if_pos hb]
theorem Z92 (s : ByteArray) (n : Nat) (hn : n < s.size) (hs : s.size ≤ 2048) : CallM Tryz.prog Z5G Z1f (sv s n) [GF] [] (sv s (n + 1 + (textL (dr s (n + 1)) []).2)) (.tup2 (.is (tv (textL (dr s (n + 1)) []).1.1)) (.is (.int .i64 (textL (dr s (n + 1)) []).1.2))) :=
CallM.of (fn := Tryz.f102) Tryz.func102 (n := 88) rfl rfl rfl (fun _ _ => by kernel_rfl) fun E W b0 => by
 refine vQ ?_
 refine JO.alloc Z2F rfl fun b2 => ?_
 refine Ja rfl ?_
 refine vP [0, 2] ?_
 refine Ja rfl ?_
 refine vP [0, 2, 4] ?_
 refine Jm rfl (Jq (Z5 rfl) ?_)
 refine Jq (Z0 Zg rfl) ?_
 refine Jq (Z1 Zt rfl rfl) ?_
 refine Jq (ZE (cc := ((n + 1 : Nat) : Int)) rfl rfl qM qM qM) ?_
 refine Jq (Z5 rfl) ?_
 refine Jq (Z0 Zg rfl) ?_
 refine JO.m (Zj (cs' := [_, _]) rfl rfl qU rfl rfl rfl rfl Z3F) (by rfl) ?_
 refine vS [0, 2, 4] ?_
 apply yk
 repeat apply yQ
 refine J.loopG (α := Nat × List UInt8 × Option (Nat × List Value) × Nat) (fun z => [(0, .is (.pointer (some ⟨b0, 0, none⟩))), (2, .is (.pointer (some ⟨b2, 0, none⟩))), (4, .is (sliceO z.2.2.1 z.2.1.length z.2.2.2))]) (fun z => ⟨b2, Z2p, .is (tv t3D)⟩ :: ⟨b0, Z1f, .is (sv s z.1)⟩ :: ownO z.2.2.1 ZdZ []) (fun z => fun _ => True) (fun z => z.1 ≤ s.size ∧ ((textL (dr s z.1) z.2.1).1 = (textL (dr s (n + 1)) []).1 ∧ z.1 + (textL (dr s z.1) z.2.1).2 = n + 1 + (textL (dr s (n + 1)) []).2) ∧ Grows bC 1 z.2.1 z.2.2.1 z.2.2.2 ∧ z.2.1.length ≤ z.1) (fun z => s.size - z.1) (n + 1, [], none, 0) [0, 2, 4] (.cons rfl (.cons rfl (.cons rfl .nil))) rfl (fun _ => trivial) ⟨by omega, ⟨rfl, rfl⟩, rfl, by simp⟩ fun ⟨i, acc, st, cp⟩ ⟨hi, ⟨hr1, hr2⟩, hG, hal⟩ => ?_
 try dsimp only
 try dsimp only at hi
 try dsimp only at hr1
 try dsimp only at hr2
 try dsimp only at hG
 try dsimp only at hal
 repeat apply yQ
 refine J.reg0 hmx qK qK ?_
 refine yz (Z2 rfl) ?_
 refine yz (Z5 rfl) ?_
 refine yz (Z0 Zg rfl) ?_
 refine yz (Z1 Zt rfl rfl) ?_
 refine yz (Z2 rfl) ?_
 refine yz (Z5 rfl) ?_
 refine yz (Z0 ZO rfl) ?_
 refine yz (Z1 Z9 rfl rfl) ?_
 refine yz (Z4d Zv rfl) ?_
 refine yz (ZW rfl rfl) ?_
 apply yn
 refine FinS.nil0 ?_
 refine vS [0, 2, 4, 21] ?_
 refine yC rfl (fun ht21 => ?_) (fun ht21 => ?_)
 try simp only [yd, yf] at ht21
 apply yK
 refine vN ?_
 apply yk
 repeat apply yQ
 refine J.reg0 hmx qK qK ?_
 refine yz (Z2 rfl) ?_
 refine yz (Z5 rfl) ?_
 refine yz (Z0 ZO rfl) ?_
 refine yz (Z1 Z9 rfl rfl) ?_
 refine yz (Z2 rfl) ?_
 refine yz (Z5 rfl) ?_
 refine yz (Z0 Zg rfl) ?_
 refine yz (Z1 Zt rfl rfl) ?_
 refine yz (Z3T Zv rfl rfl qM qM) ?_
 refine yz (ZM rfl rfl) ?_
 apply yn
 refine FinS.nil0 ?_
 refine vS [0, 2, 4, 38] ?_
 refine yC rfl (fun ht38 => ?_) (fun ht38 => ?_)
 have hb39 : (by_ s i == 39) = true := (by rw [← q39]; first|exact ht38 | simpa using ht38)
 refine vQ ?_
 refine Jm rfl (Jq (Z5 rfl) ?_)
 refine Jq (Z0 Zg rfl) ?_
 refine Jq (Z1 Zt rfl rfl) ?_
 refine Jq (ZE (cc := ((i + 1 : Nat) : Int)) rfl rfl qM qM qM) ?_
 refine Jq (Z5 rfl) ?_
 refine Jq (Z0 Zg rfl) ?_
 refine JO.m (Zj (cs' := [_, _]) rfl rfl qU rfl rfl rfl rfl Z3F) (by rfl) ?_
 refine vS [0, 2, 4] ?_
 refine J.reg0 hmx qK qK ?_
 refine yz (Z2 rfl) ?_
 refine yz (Z5 rfl) ?_
 refine yz (Z0 Zg rfl) ?_
 refine yz (Z1 Zt rfl rfl) ?_
 refine yz (Z2 rfl) ?_
 refine yz (Z5 rfl) ?_
 refine yz (Z0 ZO rfl) ?_
 refine yz (Z1 Z9 rfl rfl) ?_
 refine yz (Z4d Zv rfl) ?_
 refine yz (ZM rfl rfl) ?_
 refine yz (Z2 rfl) ?_
 refine yg rfl rfl rfl (fun hg => Z2 (.inl rfl)) ?_
 refine yg rfl rfl rfl (fun hg => Z5 (qR rfl)) ?_
 refine yg rfl rfl rfl (fun hg => Z0 ZO (qR rfl)) ?_
 refine yg rfl rfl rfl (fun hg => Z1 Z9 (qR rfl) rfl) ?_
 refine yg rfl rfl rfl (fun hg => Z2 (.inl rfl)) ?_
 refine yg rfl rfl rfl (fun hg => Z5 (qR rfl)) ?_
 refine yg rfl rfl rfl (fun hg => Z0 Zg (qR rfl)) ?_
 refine yg rfl rfl rfl (fun hg => Z1 Zt (qR rfl) rfl) ?_
 refine yg rfl rfl rfl (fun hg => Z3T Zv (qR rfl) (qR rfl) (by simp at hg; omega) (by simp at hg; omega)) ?_
 refine yg rfl rfl rfl (fun hg => Z25 (qR rfl) (.inl rfl)) ?_
 refine yz (Z11 rfl rfl rfl id) ?_
 apply yn
 refine FinS.nil0 ?_
 refine vS [0, 2, 4, 67] ?_
 refine yC rfl (fun ht67 => ?_) (fun ht67 => ?_)
 have htx := Zi1 qM acc hb39 (show (((i + 1 : Nat) : Int) == (s.size : Int) || !(by_ s (i + 1) == 39)) = true by rw [← q39]; exact ht67)
 rw [htx] at hr1 hr2
 refine J.freezeOM ZdE hG (e := ZdZ) yV (fun q h => ⟨_, List.mem_cons_of_mem _ List.mem_cons_self, h.symm⟩) rfl rfl ?_
 obtain ⟨cap2, hso⟩ := Zcr hG
 rw [hso]
 refine vQ ?_
 refine Jm rfl (Jq (Zo Z4a rfl) ?_)
 refine Jq (Z2i rfl rfl) ?_
 refine vS [2, 4, 70] ?_
 refine yC rfl (fun ht70 => ?_) (fun ht70 => ?_)
 try simp only [yd, yf] at ht70
 refine vQ ?_
 refine Jq (ZB (cs := [_, _, _]) Z1A .nil rfl rfl) ?_
 refine JO.m (Z3 rfl rfl qU qC qO Z1h) (by rfl) ?_
 refine Ja rfl ?_
 refine vS [2, 3] ?_
 refine vR ?_
 exact JX.retMC1is rfl HasOwn.mem rfl Z15 HasOwn.mem rfl rfl (by rw [← hr1]; unfold endT; rw [if_pos (decide_eq_true ht70)]; rfl) (by rw [← hr1]; unfold endT; rw [if_pos (decide_eq_true ht70)]) (by rw [← hr2])
 try simp only [yd, yf] at ht70
 apply yK
 refine vN ?_
 apply yN
 refine Jm rfl (Jq (ZkS Z4a ZaY Zv rfl qI) ?_)
 refine Jq (ZB (cs := [_, _, _]) Z1A (.cons rfl (.cons rfl .nil)) rfl rfl) ?_
 refine JO.m (Z3 rfl rfl qU qC qO Z1h) (by rfl) ?_
 refine Ja rfl ?_
 refine vS [2, 3] ?_
 refine vR ?_
 exact JX.retMC1is rfl HasOwn.mem rfl Z15 HasOwn.mem rfl rfl (by rw [← hr1]; unfold endT; rw [if_neg (by rw [decide_eq_false ht70]; simp)]) (by rw [← hr1]; unfold endT; rw [if_neg (by rw [decide_eq_false ht70]; simp)]) (by rw [← hr2])
 apply yK
 repeat first|apply yX|apply yB
 have hlt2 : i + 1 < s.size := (by have h := ht67; simp only [Bool.or_eq_false_iff, beq_eq_false_iff_ne] at h; omega)
 have hc39 : (by_ s (i + 1) == 39) = true := (by have h := (Bool.or_eq_false_iff.1 ht67).2; rw [← q39]; exact (show (sb s (i + 1) == 39) = true by simpa using h))
 repeat apply yQ
 refine J.regS 11 hmx qK qK ?_
 refine yz (Z2 rfl) ?_
 refine yz (Z2 rfl) ?_
 refine yz (Z5 rfl) ?_
 refine yz (Z0 ZO rfl) ?_
 refine yz (Z1 Z9 rfl rfl) ?_
 refine yz (Z2 rfl) ?_
 refine yz (Z5 rfl) ?_
 refine yz (Z0 Zg rfl) ?_
 refine yz (Z1 Zt rfl rfl) ?_
 refine yz (Z3T Zv rfl rfl qM qM) ?_
 refine yz (ZF (cs := [_]) ZaJ qM qM (.cons rfl .nil) rfl rfl rfl) ?_
 apply yn
 refine FinS.tail0 ?_
 refine JO.apP [by_ s (i + 1)] ZaG ZdE (by repeat (first|exact .here|apply Cx.past|apply Cx.there)) hG rfl rfl (fun L => Z3o Z4a rfl rfl) (by simp) (by simp; omega) (by simp; omega) rfl (fun st1 cp1 hG1 => ?_)
 refine Ja rfl ?_
 refine vP [0, 2, 4] ?_
 refine Jm rfl (Jq (Z5 rfl) ?_)
 refine Jq (Z0 Zg rfl) ?_
 refine Jq (Z1 Zt rfl rfl) ?_
 refine Jq (ZE (cc := ((i + 1 + 1 : Nat) : Int)) rfl rfl qM qM qM) ?_
 refine Jq (Z5 rfl) ?_
 refine Jq (Z0 Zg rfl) ?_
 refine JO.m (Zj (cs' := [_, _]) rfl rfl qU rfl rfl rfl rfl Z3F) (by rfl) ?_
 apply yI
 repeat refine JX.normal_block ?_
 refine JX.roundG (x := ⟨i, acc, st, cp⟩) (i + 1 + 1, acc ++ [by_ s (i + 1)], st1, cp1) ?_ ?_ [0, 2, 4] ?_ ?_ ?_ ?_
 · exact ⟨by omega, by have h := Zii hlt2 acc hb39 hc39; rw [h] at hr1 hr2; exact ⟨hr1, (by dsimp only; omega)⟩, hG1, by simp; omega⟩
 · exact (by simp only; omega)
 · exact qS
 · exact qH
 · exact qG
 · exact fun _ _ _ => fun _ _ => trivial
 apply yK
 repeat first|apply yX|apply yB
 have hb39 : (by_ s i == 39) = false := (by rw [← q39]; first|exact ht38 | simpa using ht38)
 repeat apply yQ
 refine J.regS 11 hmx qK qK ?_
 refine yz (Z2 rfl) ?_
 refine yz (Z2 rfl) ?_
 refine yz (Z5 rfl) ?_
 refine yz (Z0 ZO rfl) ?_
 refine yz (Z1 Z9 rfl rfl) ?_
 refine yz (Z2 rfl) ?_
 refine yz (Z5 rfl) ?_
 refine yz (Z0 Zg rfl) ?_
 refine yz (Z1 Zt rfl rfl) ?_
 refine yz (Z3T Zv rfl rfl qM qM) ?_
 refine yz (ZF (cs := [_]) ZaJ qM qM (.cons rfl .nil) rfl rfl rfl) ?_
 apply yn
 refine FinS.tail0 ?_
 refine JO.apP [by_ s i] ZaG ZdE (by repeat (first|exact .here|apply Cx.past|apply Cx.there)) hG rfl rfl (fun L => Z3o Z4a rfl rfl) (by simp) (by simp; omega) (by simp; omega) rfl (fun st1 cp1 hG1 => ?_)
 refine Ja rfl ?_
 refine vP [0, 2, 4] ?_
 refine Jm rfl (Jq (Z5 rfl) ?_)
 refine Jq (Z0 Zg rfl) ?_
 refine Jq (Z1 Zt rfl rfl) ?_
 refine Jq (ZE (cc := ((i + 1 : Nat) : Int)) rfl rfl qM qM qM) ?_
 refine Jq (Z5 rfl) ?_
 refine Jq (Z0 Zg rfl) ?_
 refine JO.m (Zj (cs' := [_, _]) rfl rfl qU rfl rfl rfl rfl Z3F) (by rfl) ?_
 apply yI
 repeat refine JX.normal_block ?_
 refine JX.roundG (x := ⟨i, acc, st, cp⟩) (i + 1, acc ++ [by_ s i], st1, cp1) ?_ ?_ [0, 2, 4] ?_ ?_ ?_ ?_
 · exact ⟨by omega, by have h := Zjc qM acc hb39; rw [h] at hr1 hr2; exact ⟨hr1, (by dsimp only; omega)⟩, hG1, by simp; omega⟩
 · exact (by simp only; omega)
 · exact qS
 · exact qH
 · exact qG
 · exact fun _ _ _ => fun _ _ => trivial
 try simp only [yd, yf] at ht21
 repeat apply yQ
 refine J.exit ?_
 repeat first|refine yH ?_|refine yM rfl ?_|refine yE ?_
 repeat first|apply yX|apply yB
 rw [Zif qM acc] at hr1 hr2
 refine vQ ?_
 refine Jq (ZB (cs := [_, _, _]) Z1A .nil rfl rfl) ?_
 refine JO.m (Z3 rfl rfl qU qC qO Z1h) (by rfl) ?_
 refine Ja rfl ?_
 refine vS [2, 3] ?_
 refine vR ?_
 exact JX.retMC1is rfl HasOwn.mem rfl Z15 HasOwn.mem rfl rfl (by rw [← hr1]; rfl) (by rw [← hr1]) (by rw [← hr2]; rfl)
end Go.Proofs.YtbedigkncjbggaaGreatDoor
