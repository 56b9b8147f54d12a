/- The library's functions that the scanner and the parser call, out of the kit's shelf. No condition. -/
import Derived.Test.YtbedigkncjbggaaGreatDoorXQ1
import Derived.Shelf.Strings.OnBuilder
import Derived.Shelf.Small.Strs
import Derived.Shelf.Strings.Search3
import Derived.Shelf.Strings.Fields
import Derived.Test.YtbedigkncjbggaaGreatDoorXG7
set_option maxRecDepth 20000
namespace Go.Proofs.YtbedigkncjbggaaGreatDoor
open Go Go.Vc Go.Shelf
def Z3X : Go.Shelf.Ren := ⟨fun | 158 => 93 | 165 => 80 | 166 => 81 | 167 => 133 | 169 => 82 | 230 => 134 | 203 => 135 | 240 => 129 | 241 => 130 | 197 => 153 | 118 => 154 | 168 => 155 | 270 => 156 | 262 => 157 | 276 => 147 | 277 => 148 | 260 => 171 | 242 => 172 | 313 => 173 | 278 => 181 | 274 => 182 | 275 => 183 | n => n, fun | 9 => 9 | 4 => 4 | 3 => 3 | 5 => 5 | 72 => 118 | 0 => 0 | 76 => 122 | 75 => 121 | 107 => 164 | 70 => 116 | 20 => 20 | 37 => 37 | 127 => 160 | 21 => 21 | 105 => 180 | 164 => 172 | 162 => 201 | 203 => 199 | 119 => 187 | 46 => 161 | 139 => 210 | 138 => 209 | 51 => 194 | 160 => 211 | 208 => 230 | 206 => 228 | 80 => 72 | n => n, fun | 13 => 3 | 3 => 5 | 4 => 6 | n => n⟩
theorem lays158 : Go.Proofs.Lays.n158 Tryz.prog Z3X := {
 mixed := by kernel_rfl
 f118 := Tryz.func154.trans (congrArg some (by kernel_rfl))
 f158 := Tryz.func93.trans (congrArg some (by kernel_rfl))
 f165 := Tryz.func80.trans (congrArg some (by kernel_rfl))
 f166 := Tryz.func81.trans (congrArg some (by kernel_rfl))
 f167 := Tryz.func133.trans (congrArg some (by kernel_rfl))
 f168 := Tryz.func155.trans (congrArg some (by kernel_rfl))
 f169 := Tryz.func82.trans (congrArg some (by kernel_rfl))
 f197 := Tryz.func153.trans (congrArg some (by kernel_rfl))
 f203 := Tryz.func135.trans (congrArg some (by kernel_rfl))
 f230 := Tryz.func134.trans (congrArg some (by kernel_rfl))
 f240 := Tryz.func129.trans (congrArg some (by kernel_rfl))
 f241 := Tryz.func130.trans (congrArg some (by kernel_rfl))
 f242 := Tryz.func172.trans (congrArg some (by kernel_rfl))
 f260 := Tryz.func171.trans (congrArg some (by kernel_rfl))
 f262 := Tryz.func157.trans (congrArg some (by kernel_rfl))
 f270 := Tryz.func156.trans (congrArg some (by kernel_rfl))
 f274 := Tryz.func182.trans (congrArg some (by kernel_rfl))
 f275 := Tryz.func183.trans (congrArg some (by kernel_rfl))
 f276 := Tryz.func147.trans (congrArg some (by kernel_rfl))
 f277 := Tryz.func148.trans (congrArg some (by kernel_rfl))
 f278 := Tryz.func181.trans (congrArg some (by kernel_rfl))
 f313 := Tryz.func173.trans (congrArg some (by kernel_rfl))
 t0 := Tryz.underlying0
 a0 := Tryz.isAgg0
 z0 := Tryz.sizeOf0
 v0 := Tryz.zeroValue0
 t3 := Tryz.underlying3
 a3 := Tryz.isAgg3
 z3 := Tryz.sizeOf3
 v3 := Tryz.zeroValue3
 t4 := Tryz.underlying4
 a4 := Tryz.isAgg4
 z4 := Tryz.sizeOf4
 v4 := Tryz.zeroValue4
 t5 := Tryz.underlying5
 a5 := Tryz.isAgg5
 z5 := Tryz.sizeOf5
 v5 := Tryz.zeroValue5
 t9 := Tryz.underlying9
 a9 := Tryz.isAgg9
 z9 := Tryz.sizeOf9
 v9 := Tryz.zeroValue9
 t20 := Tryz.underlying20
 a20 := Tryz.isAgg20
 z20 := Tryz.sizeOf20
 v20 := Tryz.zeroValue20
 t21 := Tryz.underlying21
 a21 := Tryz.isAgg21
 z21 := Tryz.sizeOf21
 v21 := Tryz.zeroValue21
 t37 := Tryz.underlying37
 a37 := Tryz.isAgg37
 z37 := Tryz.sizeOf37
 v37 := Tryz.zeroValue37
 t46 := Tryz.underlying161
 a46 := Tryz.isAgg161
 z46 := Tryz.sizeOf161
 v46 := Tryz.zeroValue161
 t51 := Tryz.underlying194
 a51 := Tryz.isAgg194
 z51 := Tryz.sizeOf194
 v51 := Tryz.zeroValue194
 t70 := Tryz.underlying116
 a70 := Tryz.isAgg116
 z70 := Tryz.sizeOf116
 v70 := Tryz.zeroValue116
 t72 := Tryz.underlying118
 a72 := Tryz.isAgg118
 z72 := Tryz.sizeOf118
 v72 := Tryz.zeroValue118
 t75 := Tryz.underlying121
 a75 := Tryz.isAgg121
 z75 := Tryz.sizeOf121
 v75 := Tryz.zeroValue121
 t76 := Tryz.underlying122
 a76 := Tryz.isAgg122
 z76 := Tryz.sizeOf122
 v76 := Tryz.zeroValue122
 t105 := Tryz.underlying180
 a105 := Tryz.isAgg180
 z105 := Tryz.sizeOf180
 v105 := Tryz.zeroValue180
 t107 := Tryz.underlying164
 a107 := Tryz.isAgg164
 z107 := Tryz.sizeOf164
 v107 := Tryz.zeroValue164
 t119 := Tryz.underlying187
 a119 := Tryz.isAgg187
 z119 := Tryz.sizeOf187
 t127 := Tryz.underlying160
 a127 := Tryz.isAgg160
 z127 := Tryz.sizeOf160
 v127 := Tryz.zeroValue160
 t138 := Tryz.underlying209
 a138 := Tryz.isAgg209
 z138 := Tryz.sizeOf209
 v138 := Tryz.zeroValue209
 t139 := Tryz.underlying210
 a139 := Tryz.isAgg210
 z139 := Tryz.sizeOf210
 v139 := Tryz.zeroValue210
 t160 := Tryz.underlying211
 a160 := Tryz.isAgg211
 z160 := Tryz.sizeOf211
 v160 := Tryz.zeroValue211
 t162 := Tryz.underlying201
 a162 := Tryz.isAgg201
 z162 := Tryz.sizeOf201
 v162 := Tryz.zeroValue201
 t164 := Tryz.underlying172
 a164 := Tryz.isAgg172
 z164 := Tryz.sizeOf172
 v164 := Tryz.zeroValue172
 t203 := Tryz.underlying199
 a203 := Tryz.isAgg199
 z203 := Tryz.sizeOf199
 v203 := Tryz.zeroValue199
 t206 := Tryz.underlying228
 a206 := Tryz.isAgg228
 z206 := Tryz.sizeOf228
 v206 := Tryz.zeroValue228
 t208 := Tryz.underlying230
 a208 := Tryz.isAgg230
 z208 := Tryz.sizeOf230
 v208 := Tryz.zeroValue230
 g3 := by kernel_rfl
 g4 := by kernel_rfl
 g13 := by kernel_rfl }
theorem extra158 : Builder.Extra Tryz.prog Z3X := {
 sizeBuilder := by kernel_rfl
 liesBuilder := by kernel_rfl
 t5 := Tryz.underlying5
 a5 := Tryz.isAgg5
 z5 := Tryz.sizeOf5
 v5 := Tryz.zeroValue5
 infoByte := by kernel_rfl
 cellsByte := by kernel_rfl
 sizeByte := by kernel_rfl
 neB5 := by decide }
open Go.RowKit in
def Z95 : Go.Shelf.Ren := ⟨fun | 159 => 142 | 165 => 80 | 166 => 81 | 167 => 133 | 169 => 82 | 230 => 134 | 204 => 161 | 240 => 129 | 241 => 130 | 197 => 153 | 118 => 154 | 168 => 155 | 270 => 156 | 262 => 157 | 276 => 147 | 277 => 148 | 260 => 171 | 242 => 172 | 313 => 173 | 278 => 181 | 274 => 182 | 275 => 183 | n => n, fun | 9 => 9 | 4 => 4 | 3 => 3 | 5 => 5 | 72 => 118 | 0 => 0 | 76 => 122 | 75 => 121 | 107 => 164 | 70 => 116 | 20 => 20 | 37 => 37 | 127 => 160 | 21 => 21 | 105 => 180 | 164 => 172 | 162 => 201 | 203 => 199 | 119 => 187 | 46 => 161 | 139 => 210 | 138 => 209 | 51 => 194 | 160 => 211 | 208 => 230 | 206 => 228 | 80 => 72 | n => n, fun | 13 => 3 | 3 => 5 | 4 => 6 | n => n⟩
theorem lays159 : Go.Proofs.Lays.n159 Tryz.prog Z95 := {
 mixed := by kernel_rfl
 f118 := Tryz.func154.trans (congrArg some (by kernel_rfl))
 f159 := Tryz.func142.trans (congrArg some (by kernel_rfl))
 f165 := Tryz.func80.trans (congrArg some (by kernel_rfl))
 f166 := Tryz.func81.trans (congrArg some (by kernel_rfl))
 f167 := Tryz.func133.trans (congrArg some (by kernel_rfl))
 f168 := Tryz.func155.trans (congrArg some (by kernel_rfl))
 f169 := Tryz.func82.trans (congrArg some (by kernel_rfl))
 f197 := Tryz.func153.trans (congrArg some (by kernel_rfl))
 f204 := Tryz.func161.trans (congrArg some (by kernel_rfl))
 f230 := Tryz.func134.trans (congrArg some (by kernel_rfl))
 f240 := Tryz.func129.trans (congrArg some (by kernel_rfl))
 f241 := Tryz.func130.trans (congrArg some (by kernel_rfl))
 f242 := Tryz.func172.trans (congrArg some (by kernel_rfl))
 f260 := Tryz.func171.trans (congrArg some (by kernel_rfl))
 f262 := Tryz.func157.trans (congrArg some (by kernel_rfl))
 f270 := Tryz.func156.trans (congrArg some (by kernel_rfl))
 f274 := Tryz.func182.trans (congrArg some (by kernel_rfl))
 f275 := Tryz.func183.trans (congrArg some (by kernel_rfl))
 f276 := Tryz.func147.trans (congrArg some (by kernel_rfl))
 f277 := Tryz.func148.trans (congrArg some (by kernel_rfl))
 f278 := Tryz.func181.trans (congrArg some (by kernel_rfl))
 f313 := Tryz.func173.trans (congrArg some (by kernel_rfl))
 t0 := Tryz.underlying0
 a0 := Tryz.isAgg0
 z0 := Tryz.sizeOf0
 v0 := Tryz.zeroValue0
 t3 := Tryz.underlying3
 a3 := Tryz.isAgg3
 z3 := Tryz.sizeOf3
 v3 := Tryz.zeroValue3
 t4 := Tryz.underlying4
 a4 := Tryz.isAgg4
 z4 := Tryz.sizeOf4
 v4 := Tryz.zeroValue4
 t5 := Tryz.underlying5
 a5 := Tryz.isAgg5
 z5 := Tryz.sizeOf5
 v5 := Tryz.zeroValue5
 t9 := Tryz.underlying9
 a9 := Tryz.isAgg9
 z9 := Tryz.sizeOf9
 v9 := Tryz.zeroValue9
 t20 := Tryz.underlying20
 a20 := Tryz.isAgg20
 z20 := Tryz.sizeOf20
 v20 := Tryz.zeroValue20
 t21 := Tryz.underlying21
 a21 := Tryz.isAgg21
 z21 := Tryz.sizeOf21
 v21 := Tryz.zeroValue21
 t37 := Tryz.underlying37
 a37 := Tryz.isAgg37
 z37 := Tryz.sizeOf37
 v37 := Tryz.zeroValue37
 t46 := Tryz.underlying161
 a46 := Tryz.isAgg161
 z46 := Tryz.sizeOf161
 v46 := Tryz.zeroValue161
 t51 := Tryz.underlying194
 a51 := Tryz.isAgg194
 z51 := Tryz.sizeOf194
 v51 := Tryz.zeroValue194
 t70 := Tryz.underlying116
 a70 := Tryz.isAgg116
 z70 := Tryz.sizeOf116
 v70 := Tryz.zeroValue116
 t72 := Tryz.underlying118
 a72 := Tryz.isAgg118
 z72 := Tryz.sizeOf118
 v72 := Tryz.zeroValue118
 t75 := Tryz.underlying121
 a75 := Tryz.isAgg121
 z75 := Tryz.sizeOf121
 v75 := Tryz.zeroValue121
 t76 := Tryz.underlying122
 a76 := Tryz.isAgg122
 z76 := Tryz.sizeOf122
 v76 := Tryz.zeroValue122
 t105 := Tryz.underlying180
 a105 := Tryz.isAgg180
 z105 := Tryz.sizeOf180
 v105 := Tryz.zeroValue180
 t107 := Tryz.underlying164
 a107 := Tryz.isAgg164
 z107 := Tryz.sizeOf164
 v107 := Tryz.zeroValue164
 t119 := Tryz.underlying187
 a119 := Tryz.isAgg187
 z119 := Tryz.sizeOf187
 t127 := Tryz.underlying160
 a127 := Tryz.isAgg160
 z127 := Tryz.sizeOf160
 v127 := Tryz.zeroValue160
 t138 := Tryz.underlying209
 a138 := Tryz.isAgg209
 z138 := Tryz.sizeOf209
 v138 := Tryz.zeroValue209
 t139 := Tryz.underlying210
 a139 := Tryz.isAgg210
 z139 := Tryz.sizeOf210
 v139 := Tryz.zeroValue210
 t160 := Tryz.underlying211
 a160 := Tryz.isAgg211
 z160 := Tryz.sizeOf211
 v160 := Tryz.zeroValue211
 t162 := Tryz.underlying201
 a162 := Tryz.isAgg201
 z162 := Tryz.sizeOf201
 v162 := Tryz.zeroValue201
 t164 := Tryz.underlying172
 a164 := Tryz.isAgg172
 z164 := Tryz.sizeOf172
 v164 := Tryz.zeroValue172
 t203 := Tryz.underlying199
 a203 := Tryz.isAgg199
 z203 := Tryz.sizeOf199
 v203 := Tryz.zeroValue199
 t206 := Tryz.underlying228
 a206 := Tryz.isAgg228
 z206 := Tryz.sizeOf228
 v206 := Tryz.zeroValue228
 t208 := Tryz.underlying230
 a208 := Tryz.isAgg230
 z208 := Tryz.sizeOf230
 v208 := Tryz.zeroValue230
 g3 := by kernel_rfl
 g4 := by kernel_rfl
 g13 := by kernel_rfl }
theorem extra159 : Builder.Extra Tryz.prog Z95 := {
 sizeBuilder := by kernel_rfl
 liesBuilder := by kernel_rfl
 t5 := Tryz.underlying5
 a5 := Tryz.isAgg5
 z5 := Tryz.sizeOf5
 v5 := Tryz.zeroValue5
 infoByte := by kernel_rfl
 cellsByte := by kernel_rfl
 sizeByte := by kernel_rfl
 neB5 := by decide }
open Go.RowKit in
def Zd4 : Go.Shelf.Ren := ⟨fun | 137 => 97 | 217 => 138 | 266 => 160 | n => n, fun | 9 => 9 | 5 => 5 | 3 => 3 | n => n, fun | n => n⟩
theorem lays137 : Go.Proofs.Lays.n137 Tryz.prog Zd4 := {
 mixed := by kernel_rfl
 f137 := Tryz.func97.trans (congrArg some (by kernel_rfl))
 f217 := Tryz.func138.trans (congrArg some (by kernel_rfl))
 f266 := Tryz.func160.trans (congrArg some (by kernel_rfl))
 t3 := Tryz.underlying3
 a3 := Tryz.isAgg3
 z3 := Tryz.sizeOf3
 v3 := Tryz.zeroValue3
 t5 := Tryz.underlying5
 a5 := Tryz.isAgg5
 z5 := Tryz.sizeOf5
 v5 := Tryz.zeroValue5
 t9 := Tryz.underlying9
 a9 := Tryz.isAgg9
 z9 := Tryz.sizeOf9
 v9 := Tryz.zeroValue9 }
open Go.RowKit in
def ZiN : Go.Shelf.Ren := ⟨fun | 143 => 159 | 219 => 176 | 217 => 138 | 225 => 184 | 224 => 185 | 267 => 186 | 266 => 160 | 314 => 190 | n => n, fun | 9 => 9 | 3 => 3 | 4 => 4 | 5 => 5 | 46 => 161 | 146 => 231 | 51 => 194 | n => n, fun | 1 => 1 | n => n⟩
open Go.RowKit Go.Lib in
def ZcE : Go.Shelf.Ren := ⟨fun | 144 => 141 | 143 => 159 | 219 => 176 | 217 => 138 | 225 => 184 | 224 => 185 | 267 => 186 | 266 => 160 | 314 => 190 | n => n, fun | 9 => 9 | 4 => 4 | 3 => 3 | 5 => 5 | 46 => 161 | 146 => 231 | 51 => 194 | n => n, fun | 1 => 1 | n => n⟩
theorem lays144 : Go.Proofs.Lays.n144 Tryz.prog ZcE := {
 mixed := by kernel_rfl
 f143 := Tryz.func159.trans (congrArg some (by kernel_rfl))
 f144 := Tryz.func141.trans (congrArg some (by kernel_rfl))
 f217 := Tryz.func138.trans (congrArg some (by kernel_rfl))
 f219 := Tryz.func176.trans (congrArg some (by kernel_rfl))
 f224 := Tryz.func185.trans (congrArg some (by kernel_rfl))
 f225 := Tryz.func184.trans (congrArg some (by kernel_rfl))
 f266 := Tryz.func160.trans (congrArg some (by kernel_rfl))
 f267 := Tryz.func186.trans (congrArg some (by kernel_rfl))
 f314 := Tryz.func190.trans (congrArg some (by kernel_rfl))
 t3 := Tryz.underlying3
 a3 := Tryz.isAgg3
 z3 := Tryz.sizeOf3
 v3 := Tryz.zeroValue3
 t4 := Tryz.underlying4
 a4 := Tryz.isAgg4
 z4 := Tryz.sizeOf4
 v4 := Tryz.zeroValue4
 t5 := Tryz.underlying5
 a5 := Tryz.isAgg5
 z5 := Tryz.sizeOf5
 v5 := Tryz.zeroValue5
 t9 := Tryz.underlying9
 a9 := Tryz.isAgg9
 z9 := Tryz.sizeOf9
 v9 := Tryz.zeroValue9
 t46 := Tryz.underlying161
 a46 := Tryz.isAgg161
 z46 := Tryz.sizeOf161
 v46 := Tryz.zeroValue161
 t51 := Tryz.underlying194
 a51 := Tryz.isAgg194
 z51 := Tryz.sizeOf194
 v51 := Tryz.zeroValue194
 t146 := Tryz.underlying231
 a146 := Tryz.isAgg231
 z146 := Tryz.sizeOf231
 v146 := Tryz.zeroValue231
 g1 := by kernel_rfl }
open Go.RowKit Go.Lib in
def ZcJ : Go.Shelf.Ren := ⟨fun | 157 => 144 | 229 => 162 | 199 => 163 | 261 => 177 | 311 => 187 | 312 => 188 | n => n, fun | 9 => 9 | 31 => 24 | 3 => 3 | 5 => 5 | 4 => 4 | 119 => 187 | 0 => 0 | 40 => 189 | 152 => 202 | 21 => 21 | 154 => 204 | 51 => 194 | 141 => 206 | 196 => 217 | 193 => 214 | 198 => 220 | 49 => 218 | 194 => 215 | 201 => 223 | 226 => 233 | 46 => 161 | 227 => 234 | n => n, fun | 0 => 0 | 6 => 4 | n => n⟩
theorem lays157 : Go.Proofs.Lays.n157 Tryz.prog ZcJ := {
 mixed := by kernel_rfl
 f157 := Tryz.func144.trans (congrArg some (by kernel_rfl))
 f199 := Tryz.func163.trans (congrArg some (by kernel_rfl))
 f229 := Tryz.func162.trans (congrArg some (by kernel_rfl))
 f261 := Tryz.func177.trans (congrArg some (by kernel_rfl))
 f311 := Tryz.func187.trans (congrArg some (by kernel_rfl))
 f312 := Tryz.func188.trans (congrArg some (by kernel_rfl))
 t0 := Tryz.underlying0
 a0 := Tryz.isAgg0
 z0 := Tryz.sizeOf0
 v0 := Tryz.zeroValue0
 t3 := Tryz.underlying3
 a3 := Tryz.isAgg3
 z3 := Tryz.sizeOf3
 v3 := Tryz.zeroValue3
 t4 := Tryz.underlying4
 a4 := Tryz.isAgg4
 z4 := Tryz.sizeOf4
 v4 := Tryz.zeroValue4
 t5 := Tryz.underlying5
 a5 := Tryz.isAgg5
 z5 := Tryz.sizeOf5
 v5 := Tryz.zeroValue5
 t9 := Tryz.underlying9
 a9 := Tryz.isAgg9
 z9 := Tryz.sizeOf9
 v9 := Tryz.zeroValue9
 t21 := Tryz.underlying21
 a21 := Tryz.isAgg21
 z21 := Tryz.sizeOf21
 v21 := Tryz.zeroValue21
 t31 := Tryz.underlying24
 a31 := Tryz.isAgg24
 z31 := Tryz.sizeOf24
 v31 := Tryz.zeroValue24
 t40 := Tryz.underlying189
 a40 := Tryz.isAgg189
 z40 := Tryz.sizeOf189
 v40 := Tryz.zeroValue189
 t46 := Tryz.underlying161
 a46 := Tryz.isAgg161
 z46 := Tryz.sizeOf161
 v46 := Tryz.zeroValue161
 t49 := Tryz.underlying218
 a49 := Tryz.isAgg218
 z49 := Tryz.sizeOf218
 v49 := Tryz.zeroValue218
 t51 := Tryz.underlying194
 a51 := Tryz.isAgg194
 z51 := Tryz.sizeOf194
 v51 := Tryz.zeroValue194
 t119 := Tryz.underlying187
 a119 := Tryz.isAgg187
 z119 := Tryz.sizeOf187
 t141 := Tryz.underlying206
 a141 := Tryz.isAgg206
 z141 := Tryz.sizeOf206
 v141 := Tryz.zeroValue206
 t152 := Tryz.underlying202
 a152 := Tryz.isAgg202
 z152 := Tryz.sizeOf202
 v152 := Tryz.zeroValue202
 t154 := Tryz.underlying204
 a154 := Tryz.isAgg204
 z154 := Tryz.sizeOf204
 v154 := Tryz.zeroValue204
 t193 := Tryz.underlying214
 a193 := Tryz.isAgg214
 z193 := Tryz.sizeOf214
 v193 := Tryz.zeroValue214
 t194 := Tryz.underlying215
 a194 := Tryz.isAgg215
 z194 := Tryz.sizeOf215
 v194 := Tryz.zeroValue215
 t196 := Tryz.underlying217
 a196 := Tryz.isAgg217
 z196 := Tryz.sizeOf217
 v196 := Tryz.zeroValue217
 t198 := Tryz.underlying220
 a198 := Tryz.isAgg220
 z198 := Tryz.sizeOf220
 v198 := Tryz.zeroValue220
 t201 := Tryz.underlying223
 a201 := Tryz.isAgg223
 z201 := Tryz.sizeOf223
 v201 := Tryz.zeroValue223
 t226 := Tryz.underlying233
 a226 := Tryz.isAgg233
 z226 := Tryz.sizeOf233
 v226 := Tryz.zeroValue233
 t227 := Tryz.underlying234
 a227 := Tryz.isAgg234
 z227 := Tryz.sizeOf234
 v227 := Tryz.zeroValue234
 g0 := by kernel_rfl
 g6 := by kernel_rfl }
open Go.RowKit Go.Lib in
def GF (w : World) : Prop := ∃ m, w.cell? ⟨1, 0, none⟩ = some (.int .i64 m)
def AF (w : World) : Prop := Lib.TabIs Tryz.prog w "strings.asciiSpace" .u8 Lib.asciiSpaceTab
theorem Z86 (s : ByteArray) (c : Int) : CallTy Tryz.prog Z85 [.is (.string s), .is (.int .u8 c)] (.is (.int .i64 (Lib.indexByte s.data.toList c.toNat.toUInt8))) :=
 .ofShelf0 (ws := [.string s, .int .u8 c]) (fun _ _ => by kernel_rfl) fun w => Any.strings_IndexByte lays137 s c w
theorem Z8N (s : ByteArray) (hs : s.size ≤ 140737488355328) (ha : ∀ (j : Nat) (b : UInt8), s.data.toList[j]? = some b → b.toNat < 128) : CallTy Tryz.prog Z8P [.is (.string s)] (.is (.string ⟨(Lib.toUpperA s.data.toList).toArray⟩)) :=
 .ofShelf (ws := [.string s]) (fun _ _ => by kernel_rfl) fun w => Any.strings_ToUpper_ascii lays158 extra158 s w hs ha
theorem Z8J (s : ByteArray) (hs : s.size ≤ 140737488355328) (ha : ∀ (j : Nat) (b : UInt8), s.data.toList[j]? = some b → b.toNat < 128) : CallTy Tryz.prog Z8O [.is (.string s)] (.is (.string ⟨(Lib.toLowerA s.data.toList).toArray⟩)) :=
 .ofShelf (ws := [.string s]) (fun _ _ => by kernel_rfl) fun w => Any.strings_ToLower_ascii lays159 extra159 s w hs ha
theorem Z5l (s sub : ByteArray) (hs : s.size < 4294967281) : CallF Tryz.prog Z8c [GF] [.is (.string s), .is (.string sub)] (.is (.bool (Lib.contains s.data.toList sub.data.toList))) :=
 .ofShelf (ws := [.string s, .string sub]) (fun _ _ => by kernel_rfl) fun w hw => by
  obtain ⟨m, hm⟩ := hw GF (by simp)
  exact (Any.strings_Contains lays144 s sub m w hs hm).mono fun e w' ⟨h1, h2⟩ => ⟨h1, h2 ▸ .refl _ _⟩
theorem Z9m (s : ByteArray) (hs : s.size < 4294967281) (ha : ∀ (j : Nat) (b : UInt8), s.data.toList[j]? = some b → b.toNat < 128) : CallF Tryz.prog Z65 [AF] [.is (.string s)] (.newSl (.cells ((Lib.fields s.data.toList).map fun l => Value.string ⟨l.toArray⟩).toArray 9 (0, 0)) (Lib.fields s.data.toList).length (Lib.fields s.data.toList).length) :=
  ⟨fun _ _ => by kernel_rfl, fun E w vs hw hF ht => by
    obtain ⟨v, rfl, rfl⟩ : ∃ v, vs = [v] ∧ v = .string s := by
      cases vs with
      | nil => exact ht.elim
      | cons v vs =>
        obtain ⟨h1, h2⟩ := ht
        cases vs with
        | nil => exact ⟨v, rfl, h1⟩
        | cons _ _ => exact h2.elim
    have hT : AF w := (hF AF (by simp)).now
    refine Calls.mono (Any.strings_Fields lays157 (by kernel_rfl) (by kernel_rfl) s w hs ha hT) ?_
    rintro e w' ⟨rfl, rfl⟩
    exact ⟨_, rfl, Keeps.alloc w _, _, rfl, fun he => absurd (hw _ he) (by omega), Z1r w _⟩⟩
end Go.Proofs.YtbedigkncjbggaaGreatDoor
set_option maxRecDepth 20000
namespace Go.Proofs.YtbedigkncjbggaaGreatDoor
open Go Go.Vc
open Go.Pz
theorem Zaz {e : Ps Ex} {ts : List T3} (h : isT 5 Z3n ts = true) : factorP e ts = (factorP e ts.tail).map fun z => (nd 3 [z.1], z.2) := by
 obtain ⟨t, r, rfl, _⟩ := Z53 h
 rw [factorP, if_pos h]; rfl
theorem ZaP {e : Ps Ex} {ts : List T3} (h : isT 5 Z3n ts = false) : factorP e ts = atomP e ts := by
 cases ts with
 | nil => rw [factorP]
 | cons t r => rw [factorP, if_neg (by rw [h]; decide)]
theorem ZO {k : Int} {s : ByteArray} {ts : List T3} (h : isT k s ts = true) : skT k s ts = ts.tail := by unfold skT; rw [h]; rfl
theorem ZQ {k : Int} {s : ByteArray} {ts : List T3} (h : isT k s ts = false) : skT k s ts = ts := by unfold skT; rw [h]; rfl
theorem Zi {ts us : List T3} (h : ts <:+ us) : ts.tail <:+ us := (List.tail_suffix ts).trans h
theorem Z55 (T : Tk) (hc : T.ts.length ≤ T.cap) (b : Nat) (ts : List T3) (hts : ts <:+ T.ts) (e : Ps Ex) (hat : CallP Tryz.prog Z2k [PB T b (ts)] [T.G, AF] [.is (.pointer (some ⟨b, 0, none⟩))] (atomP e (ts) = none) flt (fun z : Ex × List T3 => atomP e (ts) = some z) (fun z => [PB T b z.2]) (fun z => .rep (ExR z.1))) (ih : ∀ us, us <:+ T.ts → us.length < ts.length → CallP Tryz.prog Z1p [PB T b (us)] [T.G, AF] [.is (.pointer (some ⟨b, 0, none⟩))] (factorP e (us) = none) flt (fun z : Ex × List T3 => factorP e (us) = some z) (fun z => [PB T b z.2]) (fun z => .rep (ExR z.1))) : CallP Tryz.prog Z1p [PB T b ts] [T.G, AF] [.is (.pointer (some ⟨b, 0, none⟩))] (factorP e ts = none) flt (fun z : Ex × List T3 => factorP e ts = some z) (fun z => [PB T b z.2]) (fun z => .rep (ExR z.1)) :=
CallP.of (fn := Tryz.f191) Tryz.func191 (n := 11) rfl rfl rfl (fun _ _ => by kernel_rfl) fun E W hb0 => by
 repeat apply Sq
 apply Pn
 refine JO.alloc Z16 rfl fun b2 => ?_
 apply Ni
 repeat first | apply Nx | apply Nb
 refine Sl [0, 2] (.cons rfl (.cons rfl .nil)) ?_
 repeat apply Sq
 apply Pn
 refine Jt (Z0 rfl) rfl ?_
 refine JO.callK (Lr := [_]) (Z9 T hc b ts hts Z3n) rfl (.swap _ _ _) (fun F hF => by repeat (first | (rcases Mc.1 hF with rfl | hF; · (repeat first | exact Mh | apply Mt)) | (cases hF; done))) (.one rfl (.one rfl .nil)) ?_
 intro z hz
 try dsimp only [nA, cA]
 apply Ni
 repeat first | apply Nx | apply Nb
 refine Sl [0, 2, 4] (.cons rfl (.cons rfl (.cons rfl .nil))) ?_
 repeat apply Sq
 refine Cd rfl (fun ht4 => ?_) (fun ht4 => ?_)
 ·
  try simp only [dT, dF] at ht4
  rw [ZO ht4]
  repeat apply Sq
  apply Pn
  refine Jt (Z0 rfl) rfl ?_
  refine JO.callPK (Lr := [_]) (ih ts.tail (Zi hts) (Zr ht4).2) rfl (.refl _) (fun F hF => by repeat (first | (rcases Mc.1 hF with rfl | hF; · (repeat first | exact Mh | apply Mt)) | (cases hF; done))) (.one rfl .nil) (fun hbad => ?_) ?_
  · exact JX.pnI (by rw [Zaz ht4, hbad]; rfl)
  intro z hz
  try dsimp only [nA, cA]
  refine JO.openA (s := 6) rfl (fun a6 l6 q6 b6_ o6_ _ _ => ?_)
  refine Jt (ZF (cs := [_, _, _, _, _, _, _, _]) ZL (by omega) (by omega) (.cons rfl .nil) rfl rfl rfl) rfl ?_
  refine JO.callK (Lr := [_, _]) ((Z2g 3 [z.1]).toL (L0 := []) (Φ0 := []) (Zp := fun _ : Unit => True) (L1 := fun _ => []) (R := fun _ => .rep (ExR (nd 3 [z.1]))) () trivial rfl (fun _ _ _ h => h)) rfl (Z1a _) Z10 (.one rfl (.sub rfl (Sub.newExs [XC.mk' (z.1) (z.1).K (z.1).VK (z.1).VN (z.1).VS (z.1).TB (z.1).NM (z.1).SL a6 l6 q6] rfl (fun p hp => by rw [List.mem_singleton] at hp; subst hp; (repeat first | exact Mh | apply Mt))) .nil)) ?_
  intro _ _
  try dsimp only [nA, cA]
  refine JO.m (Z3 rfl rfl (by repeat first | exact .here | apply Ut) (by first | exact cI rfl rfl | exact cE) (by first | exact cI rfl rfl | exact cE | exact cO) Zo) (by rfl) ?_
  apply Ni
  repeat first | apply Nx | apply Nb
  refine Sl [2] (.cons rfl .nil) ?_
  repeat apply Sq
  apply Rt
  repeat first | apply Rp | apply Rb
  refine JX.toP ?_
  exact JX.retLCs (Lr := [_]) (L1 := fun z : Ex × List T3 => [PB T b z.2]) (R := fun z => .rep (ExR z.1)) rfl (nd 3 [z.1], z.2) (by rw [Zaz ht4, hz]; rfl) (.refl _) rfl rfl hb0 rfl Ze HasOwn.mem Z1s (Sub.refl _)
 ·
  try simp only [dT, dF] at ht4
  apply Sk
  repeat first | apply Nx | apply Nb
  rw [ZQ ht4]
  repeat apply Sq
  apply Pn
  refine Jt (Z0 rfl) rfl ?_
  refine JO.callPK (Lr := [_]) (hat) rfl (.refl _) (fun F hF => by repeat (first | (rcases Mc.1 hF with rfl | hF; · (repeat first | exact Mh | apply Mt)) | (cases hF; done))) (.one rfl .nil) (fun hbad => ?_) ?_
  · exact JX.pnI (by rw [ZaP ht4, hbad])
  intro z hz
  try dsimp only [nA, cA]
  refine JO.m (Z3 rfl rfl (by repeat first | exact .here | apply Ut) (by first | exact cI rfl rfl | exact cE) (by first | exact cI rfl rfl | exact cE | exact cO) Zo) (by rfl) ?_
  apply Ni
  repeat first | apply Nx | apply Nb
  refine Sl [2] (.cons rfl .nil) ?_
  repeat apply Sq
  apply Rt
  repeat first | apply Rp | apply Rb
  refine JX.toP ?_
  exact JX.retLCs (Lr := [_]) (L1 := fun z : Ex × List T3 => [PB T b z.2]) (R := fun z => .rep (ExR z.1)) rfl z (by rw [ZaP ht4, hz]) (.refl _) rfl rfl hb0 rfl Ze HasOwn.mem Z1s (Sub.refl _)
theorem Z3U (T : Tk) (hc : T.ts.length ≤ T.cap) (b : Nat) (e : Ps Ex) (N : Nat) (hat : ∀ ts, ts <:+ T.ts → ts.length ≤ N → CallP Tryz.prog Z2k [PB T b (ts)] [T.G, AF] [.is (.pointer (some ⟨b, 0, none⟩))] (atomP e (ts) = none) flt (fun z : Ex × List T3 => atomP e (ts) = some z) (fun z => [PB T b z.2]) (fun z => .rep (ExR z.1))) : ∀ n ts, ts <:+ T.ts → ts.length ≤ N → ts.length ≤ n → CallP Tryz.prog Z1p [PB T b (ts)] [T.G, AF] [.is (.pointer (some ⟨b, 0, none⟩))] (factorP e (ts) = none) flt (fun z : Ex × List T3 => factorP e (ts) = some z) (fun z => [PB T b z.2]) (fun z => .rep (ExR z.1))
 | n, ts, hts, hN, hn => Z55 T hc b ts hts e (hat ts hts hN) fun us hus hl => by
  cases n with
  | zero => omega
  | succ n => exact Z3U T hc b e N hat n us hus (by omega) (by omega)
end Go.Proofs.YtbedigkncjbggaaGreatDoor
set_option maxRecDepth 20000
namespace Go.Proofs.YtbedigkncjbggaaGreatDoor
open Go Go.Vc
open Go.Pz
theorem ZfN (s : ByteArray) (h : Lib.fields s.data.toList = [s.data.toList]) (hs : s.size < 4294967281) (ha : ∀ (j : Nat) (b : UInt8), s.data.toList[j]? = some b → b.toNat < 128) : CallF Tryz.prog Z65 [AF] [.is (.string s)] (.newSl (.cells ([Value.string s] : List Value).toArray 9 (0, 0)) 1 1) := by
 have h1 := Z9m s hs ha
 rw [h] at h1
 have e : (⟨s.data.toList.toArray⟩ : ByteArray) = s := by rw [Array.toArray_toList]
 simp only [List.map_cons, List.map_nil, e] at h1
 exact h1
abbrev wd (i : Nat) (s : ByteArray) (ts : List T3) : List T3 := if i = 0 then ts else ts.tail
theorem Zk (T : Tk) (hc : T.ts.length ≤ T.cap) (b : Nat) (ts : List T3) (hts : ts <:+ T.ts) (s : ByteArray) (h : Lib.fields s.data.toList = [s.data.toList]) (hs : s.size < 4294967281) (ha : ∀ (j : Nat) (b : UInt8), s.data.toList[j]? = some b → b.toNat < 128) : CallP Tryz.prog Z6G [PB T b ts] [T.G, AF] [.is (.pointer (some ⟨b, 0, none⟩)), .is (.string s)] (wantP 1 s ts = none) flt (fun z : Unit × List T3 => wantP 1 s ts = some z) (fun z => [PB T b z.2]) (fun _ => .is (.tuple #[])) :=
CallP.of (fn := Tryz.f108) Tryz.func108 (n := 19) rfl rfl rfl (fun _ _ => by kernel_rfl) fun E W hb0 => by
 repeat apply Sq
 apply Pn
 refine Jt (Z0 rfl) rfl ?_
 refine Jt (Z2o rfl (ZfN s h hs ha) (by simp) (.one rfl .nil)) rfl ?_
 refine JO.openNew (s := 7) rfl (fun r7 => ?_)
 refine Jt (Zq Z21 rfl) rfl ?_
 refine Jt (Z0 rfl) rfl ?_
 apply Ni
 repeat first | apply Nx | apply Nb
 refine Sl [0, 7, 8, 9] (.cons rfl (.cons rfl (.cons rfl (.cons rfl .nil)))) ?_
 repeat apply Sq
 apply Bk
 repeat apply Sq
 refine J.loopG (α := Nat) (fun i => [(0, .is (.pointer (some ⟨b, 0, none⟩))), (7, .is (.slice (some ⟨r7, 0, none⟩) 1 1)), (8, .is (.int .i64 1)), (9, .is (.int .i64 (i : Int)))]) (fun i => [PB T b (wd i s ts)]) (fun i => fun _ => True) (fun i => i ≤ 1 ∧ (i = 1 → isT 1 s ts = true)) (fun i => 1 - i) 0 [0, 7, 8, 9] (.cons rfl (.cons rfl (.cons rfl (.cons rfl .nil)))) rfl (fun _ => trivial) ⟨by omega, by omega⟩ fun i ⟨hi, hT⟩ => ?_
 try dsimp only
 try dsimp only at hi
 try dsimp only at hT
 repeat apply Sq
 apply Pn
 refine Jt (Z1h rfl rfl) rfl ?_
 apply Ni
 repeat first | apply Nx | apply Nb
 refine Sl [0, 7, 8, 9, 10] (.cons rfl (.cons rfl (.cons rfl (.cons rfl (.cons rfl .nil))))) ?_
 repeat apply Sq
 refine Cd rfl (fun ht10 => ?_) (fun ht10 => ?_)
 ·
  try simp only [dT, dF] at ht10
  apply Sk
  repeat first | apply Nx | apply Nb
  repeat apply Sq
  apply Bk
  obtain rfl : i = 0 := by omega
  rw [show wd 0 s ts = ts from rfl]
  repeat apply Sq
  apply Pn
  refine Jt (Za Z33 rfl rfl rfl (by omega) (by omega)) rfl ?_
  refine Jt (Z6Z (cs := [Value.string s]) Zu rfl (by repeat first | exact Mh | apply Mt) rfl) rfl ?_
  refine Jt (Z2 rfl) rfl ?_
  apply Ni
  repeat first | apply Nx | apply Nb
  refine Sl [0, 5, 7, 8, 9] (.cons rfl (.cons rfl (.cons rfl (.cons rfl (.cons rfl .nil))))) ?_
  repeat apply Sq
  apply Pn
  refine Jt (Z0 rfl) rfl ?_
  refine Jt (Z0 rfl) rfl ?_
  refine Jt (Z0 rfl) rfl ?_
  refine JO.callK (Lr := []) (Zd T hc b ts hts s) rfl (.refl _) (Z6e (by repeat first | exact Mh | apply Mt)) (.one rfl (.one rfl .nil)) ?_
  intro z hz
  try dsimp only
  refine JO.callPK (Lr := _) (Z7 (.pointer (some ⟨b, 0, none⟩)) (isT 1 s ts)) rfl (Z1a _) Z10 (.one rfl (.one rfl .nil)) (fun hbad => ?_) ?_
  · exact JX.pnI (by unfold wantP; rw [hbad]; rfl)
  intro z hz
  try dsimp only [nA, cA]
  apply Ni
  repeat first | apply Nx | apply Nb
  refine Sl [0, 7, 8, 9] (.cons rfl (.cons rfl (.cons rfl (.cons rfl .nil)))) ?_
  rw [show skT 1 s ts = wd 1 s ts by unfold skT; rw [hz]; rfl]
  repeat apply Sq
  apply Pn
  refine Jt (ZB (cc := 1) rfl rfl (by omega) (by omega) (by omega)) rfl ?_
  refine Jt (Z0 rfl) rfl ?_
  apply Ni
  repeat refine JX.normal_block ?_
  refine JX.roundG (x := 0) 1 ?_ ?_ [0, 7, 8, 9] ?_ ?_ ?_ ?_
  · exact ⟨by omega, fun _ => hz⟩
  · exact (by omega)
  · exact (.cons rfl (.cons rfl (.cons rfl (.cons rfl .nil))))
  · repeat (first | exact .all | exact .nil | refine Has.own (by repeat first | exact .here | apply Tl.past | apply Tl.there) ?_ | refine Has.cons (by repeat (first | exact .here | apply Pk.past | apply Pk.there)) ?_)
  · exact fun G hG => by repeat (first | exact hG | refine List.mem_cons_of_mem _ ?_)
  · exact fun _ _ _ => fun _ _ => trivial
 ·
  try simp only [dT, dF] at ht10
  repeat apply Sq
  refine J.exit ?_
  repeat first | refine Ht ?_ | refine Ms rfl ?_ | refine Ep ?_
  repeat first | apply Nx | apply Nb
  refine JX.normal_ret ?_
  refine JX.toP ?_
  obtain rfl : i = 1 := by omega
  exact JX.retL0 (L1 := fun z : Unit × List T3 => [PB T b z.2]) (R := fun _ => .is (.tuple #[])) rfl ((), ts.tail) (by unfold wantP; rw [hT rfl]; rfl) (.refl _) rfl hb0 rfl
end Go.Proofs.YtbedigkncjbggaaGreatDoor
set_option maxRecDepth 20000
namespace Go.Proofs.YtbedigkncjbggaaGreatDoor
open Go Go.Vc
open Go.Pz
abbrev srcV (s : Pz.Src) : Value := .agg #[.string s.tb, .string s.nm, .slice none 0 0]
theorem Zdm (z : List T3) : (isT 1 w_AS z || (decide ((0 : Int) < (((skT 1 w_AS z).length : Nat) : Int)) && (((skT 1 w_AS z).headD t3D).k == 2))) = (isT 1 w_AS z || isK 2 z) := by
 rw [Z67]
 cases h : isT 1 w_AS z with
 | true => rfl
 | false => rw [ZQ h]
theorem ZbQ {ts : List T3} {z : ByteArray × List T3} (hz : nameP ts = some z) (h : (isT 1 w_AS z.2 || isK 2 z.2) = true) : sourceP ts = (nameP (skT 1 w_AS z.2)).map fun m => (⟨z.1, m.1, []⟩, m.2) := by
  unfold sourceP
  rw [hz, Option.bind_some]
  cases ha : isT 1 w_AS z.2 with
  | true => rw [if_pos rfl, ZO ha]
  | false =>
    rw [ha, Bool.false_or] at h
    rw [if_neg (by decide), if_pos h, ZQ ha]
theorem ZgP {ts : List T3} {z : ByteArray × List T3} (hz : nameP ts = some z) (h : (isT 1 w_AS z.2 || isK 2 z.2) = false) : sourceP ts = some (⟨z.1, z.1, []⟩, skT 1 w_AS z.2) := by
 unfold sourceP
 rw [Bool.or_eq_false_iff] at h
 rw [hz, Option.bind_some, if_neg (by rw [h.1]; decide), if_neg (by rw [h.2]; decide), ZQ h.1]
theorem Z3S (T : Tk) (hc : T.ts.length ≤ T.cap) (b : Nat) (ts : List T3) (hts : ts <:+ T.ts)  : CallP Tryz.prog Z6g [PB T b ts] [T.G] [.is (.pointer (some ⟨b, 0, none⟩))] (sourceP ts = none) flt (fun z : Pz.Src × List T3 => sourceP ts = some z) (fun z => [PB T b z.2]) (fun z => .is (srcV z.1)) :=
CallP.of (fn := Tryz.f116) Tryz.func116 (n := 34) rfl rfl rfl (fun _ _ => by kernel_rfl) fun E W hb0 => by
 repeat apply Sq
 apply Pn
 refine JO.alloc Z41 rfl fun b2 => ?_
 apply Ni
 repeat first | apply Nx | apply Nb
 refine Sl [0, 2] (.cons rfl (.cons rfl .nil)) ?_
 repeat apply Sq
 apply Pn
 refine Jt (Z0 rfl) rfl ?_
 refine JO.callPK (Lr := [_]) (Zz T hc b ts hts) rfl (.swap _ _ _) (Z6e (by repeat first | exact Mh | apply Mt)) (.one rfl .nil) (fun hbad => ?_) ?_
 · exact JX.pnI (by unfold sourceP; rw [hbad]; rfl)
 intro z hz
 try dsimp only [nA, cA]
 have hz2 : z.2 <:+ T.ts := (ZE _ _ hz).1.trans hts
 refine Jt (Z2 rfl) rfl ?_
 apply Ni
 repeat first | apply Nx | apply Nb
 refine Sl [0, 2, 3] (.cons rfl (.cons rfl (.cons rfl .nil))) ?_
 repeat apply Sq
 apply Pn
 refine Jt (Z0 rfl) rfl ?_
 refine Jt (Z0 rfl) rfl ?_
 refine Jt (Zv (cs := [_, _, _]) Zb0 (.cons rfl (.cons rfl .nil)) rfl rfl) rfl ?_
 refine JO.alloc Z41 rfl fun b4 => ?_
 refine JO.m (Z3 rfl rfl (by repeat first | exact .here | apply Ut) (by first | exact cI rfl rfl | exact cE) (by first | exact cI rfl rfl | exact cE | exact cO) Z3g) (by rfl) ?_
 apply Ni
 repeat first | apply Nx | apply Nb
 refine Sl [0, 2, 4] (.cons rfl (.cons rfl (.cons rfl .nil))) ?_
 repeat apply Sq
 apply Pn
 refine Jt (Z0 rfl) rfl ?_
 refine JO.callK (Lr := [_, _]) (Zd T hc b z.2 hz2 w_AS) rfl (.swap _ _ _) (Z6e (by repeat first | exact Mh | apply Mt)) (.one rfl (.one rfl .nil)) ?_
 intro _ _
 try dsimp only [nA, cA]
 have hu : skT 1 w_AS z.2 <:+ T.ts := (Z3H _ _ _).trans hz2
 refine Jt (Z0 rfl) rfl ?_
 refine JO.tg rfl rfl rfl rfl rfl (fun hg => Z0 (.inl rfl)) ?_
 refine JO.tg rfl rfl rfl rfl rfl (fun hg => Z5 (.inr ⟨_, rfl, id⟩)) ?_
 refine JO.tg rfl rfl rfl rfl rfl (fun hg => Z1 Zg (.inr ⟨_, rfl, id⟩)) ?_
 refine JO.tg rfl rfl rfl rfl rfl (fun hg => Z4 Zs (.inr ⟨_, rfl, id⟩) rfl) ?_
 refine JO.tg rfl rfl rfl rfl rfl (fun hg => Zq ZY (.inr ⟨_, rfl, id⟩)) ?_
 refine JO.tg rfl rfl rfl rfl rfl (fun hg => Z2O (.inr ⟨_, rfl, id⟩) (.inl rfl)) ?_
 refine JO.tg rfl rfl rfl rfl rfl (fun hg => Z0 (.inr ⟨_, rfl, id⟩)) ?_
 refine JO.tgg rfl rfl rfl rfl rfl (fun hg => Z0 (.inl rfl)) ?_
 refine JO.tgg rfl rfl rfl rfl rfl (fun hg => Z5 (.inr ⟨_, rfl, id⟩)) ?_
 refine JO.tgg rfl rfl rfl rfl rfl (fun hg => Z1 Zg (.inr ⟨_, rfl, id⟩)) ?_
 refine JO.tgg rfl rfl rfl rfl rfl (fun hg => Z4 Zs (.inr ⟨_, rfl, id⟩) rfl) ?_
 refine JO.tgg rfl rfl rfl rfl rfl (fun hg => Za ZX (.inr ⟨_, rfl, id⟩) rfl (.inl rfl) (by omega) (Z2j (Z2r hg.2))) ?_
 refine JO.tgg rfl rfl rfl rfl rfl (fun hg => Z1 Z2B (.inr ⟨_, rfl, id⟩)) ?_
 refine JO.tgg rfl rfl rfl rfl rfl (fun hg => ZI (enc := T3.cells) (sz := 3) (i := T.k (skT 1 w_AS z.2)) (j := 0) (y := (skT 1 w_AS z.2).headD t3D) (u := .int .i64 ((skT 1 w_AS z.2).headD t3D).k) ZA (.inr ⟨_, rfl, id⟩) (by repeat first | exact Mh | apply Mt) rfl (Tk.head hu (Z2r hg.2)) (by rw [Tk.j_eq hc hu (Z2r hg.2)]; omega) rfl) ?_
 refine JO.tgg rfl rfl rfl rfl rfl (fun hg => Z1e (.inr ⟨_, rfl, id⟩) (.inl rfl)) ?_
 refine JO.tg rfl rfl rfl rfl rfl (fun hg => Zy (.inr ⟨_, rfl, id⟩) (.inl rfl) (.inl rfl) (fun h => ⟨hg, h⟩)) ?_
 refine Jt (ZM rfl rfl rfl id) rfl ?_
 apply Ni
 repeat first | apply Nx | apply Nb
 refine Sl [0, 2, 4, 29] (.cons rfl (.cons rfl (.cons rfl (.cons rfl .nil)))) ?_
 repeat apply Sq
 refine Cd rfl (fun ht29 => ?_) (fun ht29 => ?_)
 ·
  try simp only [dT, dF] at ht29
  have hv : (isT 1 w_AS z.2 || isK 2 z.2) = true := by rw [← Zdm]; exact ht29
  repeat apply Sq
  apply Pn
  refine Jt (Z0 rfl) rfl ?_
  refine JO.callPK (Lr := [_, _]) (Zz T hc b (skT 1 w_AS z.2) hu) rfl (.refl _) (Z6e (by repeat first | exact Mh | apply Mt)) (.one rfl .nil) (fun hbad => ?_) ?_
  · exact JX.pnI (by rw [ZbQ hz hv, hbad]; rfl)
  intro y hy
  try dsimp only [nA, cA]
  refine Jt (Z1 Z4B rfl) rfl ?_
  refine JO.m (Zf (cs' := [_, _, _]) rfl rfl (by repeat first | exact .here | apply Ut) rfl rfl rfl rfl Z4e) (by rfl) ?_
  apply Ni
  repeat first | apply Nx | apply Nb
  refine Sl [2, 4] (.cons rfl (.cons rfl .nil)) ?_
  repeat apply Sq
  apply Pn
  refine Jt (ZG (cs := [_, _, _]) Z2K rfl rfl rfl) rfl ?_
  refine JO.m (Z3 rfl rfl (by repeat first | exact .here | apply Ut) (by first | exact cI rfl rfl | exact cE) (by first | exact cI rfl rfl | exact cE | exact cO) Z3g) (by rfl) ?_
  apply Ni
  repeat first | apply Nx | apply Nb
  refine Sl [2] (.cons rfl .nil) ?_
  repeat apply Sq
  apply Rt
  repeat first | apply Rp | apply Rb
  refine JX.toP ?_
  exact JX.retLC (Lr := [_, _]) (L1 := fun z : Pz.Src × List T3 => [PB T b z.2]) (R := fun z => .is (srcV z.1)) rfl (⟨z.1, y.1, []⟩, y.2) (by rw [ZbQ hz hv, hy]; rfl) (.refl _) rfl hb0 rfl Z2K HasOwn.mem rfl rfl
 ·
  try simp only [dT, dF] at ht29
  apply Sk
  repeat first | apply Nx | apply Nb
  repeat apply Sq
  apply Pn
  refine Jt (ZG (cs := [_, _, _]) Z2K rfl rfl rfl) rfl ?_
  refine JO.m (Z3 rfl rfl (by repeat first | exact .here | apply Ut) (by first | exact cI rfl rfl | exact cE) (by first | exact cI rfl rfl | exact cE | exact cO) Z3g) (by rfl) ?_
  apply Ni
  repeat first | apply Nx | apply Nb
  refine Sl [2] (.cons rfl .nil) ?_
  repeat apply Sq
  apply Rt
  repeat first | apply Rp | apply Rb
  refine JX.toP ?_
  have hv : (isT 1 w_AS z.2 || isK 2 z.2) = false := by rw [← Zdm]; exact ht29
  exact JX.retLC (Lr := [_, _]) (L1 := fun z : Pz.Src × List T3 => [PB T b z.2]) (R := fun z => .is (srcV z.1)) rfl (⟨z.1, z.1, []⟩, skT 1 w_AS z.2) (ZgP hz hv) (.refl _) rfl hb0 rfl Z2K HasOwn.mem rfl rfl
end Go.Proofs.YtbedigkncjbggaaGreatDoor
set_option maxRecDepth 20000
namespace Go.Proofs.YtbedigkncjbggaaGreatDoor
open Go Go.Vc
open Go.Pz
end Go.Proofs.YtbedigkncjbggaaGreatDoor
namespace Go.Pz
open Go Go.Vc
def okT (t : T3) : Prop := 1 ≤ t.k ∧ t.k ≤ 5 ∧ (t.k = 5 → t.n = 0 ∧ t.t.data.toList.length ≤ 2)
def okL (ts : List T3) : Prop := ∀ t ∈ ts, okT t
abbrev binL : List (Int × ByteArray × Int × Int) := [(1, w_OR, 17, 1), (1, Z57, 16, 2), (5, s_eq, 10, 4), (5, s_ne, 11, 4), (5, s_lt, 12, 4), (5, s_le, 13, 4), (5, s_gt, 14, 4), (5, s_ge, 15, 4), (5, Zbz, 5, 5), (5, Z3n, 6, 5), (5, Z2i, 7, 6), (5, Za1, 8, 6), (5, ZdZ, 9, 6)]
def binG : List (Int × ByteArray × Int × Int) → List T3 → Int × Int
 | [], _ => (0, 0)
 | (k, s, q, b) :: l, ts => if isT k s ts then (q, b) else binG l ts
def binR (ts : List T3) : Int × Int := binG binL ts
def factorR (e : Ps Ex) : Ps Ex
  | [] => none
  | t :: r =>
    if isT 5 Z3n (t :: r) then (factorR e r).map fun z => (nd 3 [z.1], z.2)
    else if t.k == 0 then none
    else if t.k == 3 then some (lit 1 t.n em, r)
    else if t.k == 4 then some (lit 3 0 t.t, r)
    else if t.k == 2 then (if isT 5 Z6B r then (nameP r.tail).map fun z => (.mk 2 0 0 em t.t z.1 0 [], z.2) else some (.mk 2 0 0 em em t.t 0 [], r))
    else if sq t.t Zfv then some (lit 2 1 em, r)
    else if sq t.t Zdi then some (lit 2 0 em, r)
    else if sq t.t Z3f then some (lit 0 0 em, r)
    else if (t.k == 5) && sq t.t s_lp then (e r).bind fun x => (wantP 5 s_rp x.2).map fun v => (x.1, v.2)
    else match aggK t.t with
      | none => none
      | some q => (wantP 5 s_lp r).bind fun y =>
        if q == 20 && isT 5 Z2i y.2 then (wantP 5 s_rp y.2.tail).map fun v => (nd 20 [], v.2)
        else (e y.2).bind fun x => (wantP 5 s_rp x.2).map fun v => (nd q [x.1], v.2)
def loopR (e : Int → Ps Ex) (least : Int) : Nat → Ex → Bool → Ps Ex
  | 0, x, _, ts => some (x, ts)
  | m + 1, x, c, ts =>
    if (decide (0 < (binR ts).1) && decide (least < (binR ts).2)) && !(c && decide (4 ≤ (binR ts).2)) then (e (binR ts).2 ts.tail).bind fun z => loopR e least m (nd (binR ts).1 [x, z.1]) (c || decide ((binR ts).2 ≤ 4)) z.2
    else if (((binR ts).1 == 0 && decide (least < 4)) && !c) && isT 1 w_IS ts then (wantP 1 Z3f (skT 1 Z29 ts.tail)).bind fun v => loopR e least m (nd (if isT 1 Z29 ts.tail then 19 else 18) [x]) true v.2
    else some (x, ts)
def exprR : Nat → Int → Ps Ex
 | 0, _ => fun _ => none
 | n + 1, l => fun ts => if decide (l < 3) && isT 1 Z29 ts then (exprR n 2 ts.tail).bind fun z => loopR (exprR n) l z.2.length (nd 4 [z.1]) true z.2 else (factorR (exprR n 0) ts).bind fun z => loopR (exprR n) l z.2.length z.1 false z.2
inductive Cls (ts : List T3) : Prop where
  | or (h : binR ts = (17, 1)) (h1 : isT 1 w_OR ts = true) (h2 : opOf 1 [(Z57, 16)] ts = none) (h3 : opOf 5 cmpO ts = none) (h4 : opOf 5 addO ts = none) (h5 : opOf 5 mulO ts = none) (h6 : isT 1 w_IS ts = false) (h7 : opOf 1 [(w_OR, 17)] ts = some 17)
  | and (h : binR ts = (16, 2)) (h1 : opOf 1 [(w_OR, 17)] ts = none) (h2 : opOf 1 [(Z57, 16)] ts = some 16) (h3 : opOf 5 cmpO ts = none) (h4 : opOf 5 addO ts = none) (h5 : opOf 5 mulO ts = none) (h6 : isT 1 w_IS ts = false)
  | cmp (q : Int) (hq : 0 < q) (h : binR ts = (q, 4)) (h1 : opOf 1 [(w_OR, 17)] ts = none) (h2 : opOf 1 [(Z57, 16)] ts = none) (h3 : opOf 5 cmpO ts = some q) (h4 : opOf 5 addO ts = none) (h5 : opOf 5 mulO ts = none) (h6 : isT 1 w_IS ts = false)
  | add (q : Int) (hq : 0 < q) (h : binR ts = (q, 5)) (h1 : opOf 1 [(w_OR, 17)] ts = none) (h2 : opOf 1 [(Z57, 16)] ts = none) (h3 : opOf 5 cmpO ts = none) (h4 : opOf 5 addO ts = some q) (h5 : opOf 5 mulO ts = none) (h6 : isT 1 w_IS ts = false)
  | mul (q : Int) (hq : 0 < q) (h : binR ts = (q, 6)) (h1 : opOf 1 [(w_OR, 17)] ts = none) (h2 : opOf 1 [(Z57, 16)] ts = none) (h3 : opOf 5 cmpO ts = none) (h4 : opOf 5 addO ts = none) (h5 : opOf 5 mulO ts = some q) (h6 : isT 1 w_IS ts = false)
  | no (h : binR ts = (0, 0)) (h1 : opOf 1 [(w_OR, 17)] ts = none) (h2 : opOf 1 [(Z57, 16)] ts = none) (h3 : opOf 5 cmpO ts = none) (h4 : opOf 5 addO ts = none) (h5 : opOf 5 mulO ts = none)
end Go.Pz
namespace Go.Pz
open Go Go.Vc
theorem Z6K {part : Ps Ex} {k : Int} {ops : List (ByteArray × Int)} (hp : Dn part) : ∀ (n m : Nat) (x : Ex) (ts : List T3), ts.length ≤ n → ts.length ≤ m → chainG part k ops n x ts = chainG part k ops m x ts
  | 0, m, x, ts, h, _ => by
    have : ts = [] := List.length_eq_zero_iff.1 (by omega)
    subst this
    cases m with
    | zero => rfl
    | succ m => rw [chainG, chainG, show opOf k ops [] = none by induction ops with | nil => rfl | cons a l ih => obtain ⟨s, n⟩ := a; exact ih]
  | n + 1, 0, x, ts, _, h => by
    have : ts = [] := List.length_eq_zero_iff.1 (by omega)
    subst this
    rw [chainG, chainG, show opOf k ops [] = none by induction ops with | nil => rfl | cons a l ih => obtain ⟨s, n⟩ := a; exact ih]
  | n + 1, m + 1, x, ts, h, h' => by
    unfold chainG
    split
    · rfl
    · rename_i q hq
      have h1 := (Z3I hq).2
      exact Z1W fun y hy => Z6K hp n m _ _ (by have := (hp _ _ hy).2; omega) (by have := (hp _ _ hy).2; omega)
def chainC (part : Ps Ex) (k : Int) (ops : List (ByteArray × Int)) (x : Ex) : Ps Ex := fun ts => chainG part k ops ts.length x ts
theorem Zes {part : Ps Ex} {k : Int} {ops : List (ByteArray × Int)} {x : Ex} {ts : List T3} (h : opOf k ops ts = none) : chainC part k ops x ts = some (x, ts) := by
 unfold chainC
 cases ts.length with
 | zero => rfl
 | succ n => rw [chainG, h]
theorem Z9x {part : Ps Ex} {k q : Int} {ops : List (ByteArray × Int)} {x : Ex} {ts : List T3} (hp : Dn part) (h : opOf k ops ts = some q) : chainC part k ops x ts = (part ts.tail).bind fun z => chainC part k ops (nd q [x, z.1]) z.2 := by
 have h1 := (Z3I h).2
 unfold chainC
 rw [Z6K hp _ (ts.length + 1) x ts (by omega) (by omega), chainG, h]
 exact Z1W fun y hy => Z6K hp _ _ _ _ (by have := (hp _ _ hy).2; omega) (by omega)
def loopC (e : Int → Ps Ex) (l : Int) (x : Ex) (c : Bool) : Ps Ex := fun ts => loopR e l ts.length x c ts
def lev (b : Int) : Ps Ex := if b = 0 then orP exprX else if b = 1 then andP exprX else if b = 2 then notP exprX else if b = 4 then sumP exprX else if b = 5 then prodP exprX else factorP exprX
theorem bas {α β γ : Type} (p : Option α) (f : α → Option β) (g : β → Option γ) : (p.bind f).bind g = p.bind fun x => (f x).bind g := Option.bind_assoc p f g
section
end
end Go.Pz
set_option maxRecDepth 20000
namespace Go.Proofs.YtbedigkncjbggaaGreatDoor
open Go Go.Vc
open Go.Pz
abbrev fv (f : FuncId) : Value := .func (.func f) #[] #[]
theorem Z4d {k : Int} {ops : List (ByteArray × Int)} {i : Nat} (h : i < ops.length) (ts : List T3) : opOf k (ops.drop i) ts = if isT k (ops.getD i (em, 0)).1 ts then some (ops.getD i (em, 0)).2 else opOf k (ops.drop (i + 1)) ts := by
 rw [List.drop_eq_getElem_cons h, List.getD_eq_getElem?_getD, List.getElem?_eq_getElem h]
 rfl
theorem Zja {ops : List (ByteArray × Int)} {i : Nat} (h : i < ops.length) : (ops.map (·.1))[i]? = some (ops.getD i (em, 0)).1 := by
 rw [List.getElem?_map, List.getD_eq_getElem?_getD, List.getElem?_eq_getElem h]; rfl
theorem Zj5 {ops : List (ByteArray × Int)} {i : Nat} (h : i < ops.length) : (ops.map (·.2))[i]? = some (ops.getD i (em, 0)).2 := by
 rw [List.getElem?_map, List.getD_eq_getElem?_getD, List.getElem?_eq_getElem h]; rfl
def chI (p : Ps Ex) (kd : Int) (ops : List (ByteArray × Int)) (ts : List T3) (s : Bool × Ex × List T3) : Prop := if s.1 = true then chainP p kd ops ts = chainC p kd ops s.2.1 s.2.2 else chainP p kd ops ts = some (s.2.1, s.2.2)
theorem Z2c (T : Tk) (hc : T.ts.length ≤ T.cap) (b : Nat) (ts : List T3) (hts : ts <:+ T.ts) (p : Ps Ex) (hpd : Dn p) (kd : Int) (ops : List (ByteArray × Int)) (h63 : ops.length ≤ 9223372036854775806) (fp : FuncId) (hpart : ∀ us, us <:+ T.ts → us.length ≤ ts.length → CallP Tryz.prog fp [PB T b (us)] [T.G, AF] [.is (.pointer (some ⟨b, 0, none⟩))] (p (us) = none) flt (fun z : Ex × List T3 => p (us) = some z) (fun z => [PB T b z.2]) (fun z => .rep (ExR z.1))) : CallP Tryz.prog Z6Q [PB T b ts] [T.G, AF] [.is (.pointer (some ⟨b, 0, none⟩)), .is (fv fp), .is (.int .i64 kd), .rep (SlG sC 1 (ops.map (·.1))), .rep (SlG iC 1 (ops.map (·.2)))] (chainP p kd ops ts = none) flt (fun z : Ex × List T3 => chainP p kd ops ts = some z) (fun z => [PB T b z.2]) (fun z => .rep (ExR z.1)) :=
CallP.of (fn := Tryz.f145) Tryz.func145 (n := 42) rfl rfl rfl (fun _ _ => by kernel_rfl) fun E W hb0 => by
 refine J.openSl (s := 3) rfl (fun a3 l3 c3 b3 o3 hl3 ha3 => ?_)
 refine J.openSl (s := 4) rfl (fun a4 l4 c4 b4 o4 hl4 ha4 => ?_)
 rw [List.length_map] at hl3 hl4
 subst hl3 hl4
 repeat apply Sq
 apply Pn
 refine JO.alloc Z16 rfl fun b10 => ?_
 apply Ni
 repeat first | apply Nx | apply Nb
 refine Sl [0, 1, 2, 3, 4, 10] (.cons rfl (.cons rfl (.cons rfl (.cons rfl (.cons rfl (.cons rfl .nil)))))) ?_
 repeat apply Sq
 apply Pn
 refine Jt (Z0 rfl) rfl ?_
 refine Jt (Z0 rfl) rfl ?_
 refine JO.callPvK (cp := []) (Lr := [_]) rfl (hpart ts hts (Nat.le_refl _)) rfl (.swap _ _ _) (fun F hF => by repeat (first | (rcases Mc.1 hF with rfl | hF; · (repeat first | exact Mh | apply Mt)) | (cases hF; done))) (.one rfl .nil) (fun hbad => ?_) ?_
 · exact JX.pnI (by unfold chainP; rw [hbad]; rfl)
 intro z1 hz1
 try dsimp only [nA, cA]
 refine JO.alloc Z16 rfl fun b11 => ?_
 refine JO.m (Z3 rfl rfl (by repeat first | exact .here | apply Ut) (by first | exact cI rfl rfl | exact cE) (by first | exact cI rfl rfl | exact cE | exact cO) Zo) (by rfl) ?_
 apply Ni
 repeat first | apply Nx | apply Nb
 refine Sl [0, 1, 2, 3, 4, 10, 11] (.cons rfl (.cons rfl (.cons rfl (.cons rfl (.cons rfl (.cons rfl (.cons rfl .nil))))))) ?_
 repeat apply Sq
 apply Pn
 refine Jt (Z2 rfl) rfl ?_
 apply Ni
 repeat first | apply Nx | apply Nb
 refine Sl [0, 1, 2, 3, 4, 10, 11, 12] (.cons rfl (.cons rfl (.cons rfl (.cons rfl (.cons rfl (.cons rfl (.cons rfl (.cons rfl .nil)))))))) ?_
 repeat apply Sq
 apply Bk
 repeat apply Sq
 refine J.loopG (α := Bool × Ex × List T3) (fun s => [(0, .is (.pointer (some ⟨b, 0, none⟩))), (1, .is (fv fp)), (2, .is (.int .i64 kd)), (3, .is (.slice a3 ops.length c3)), (4, .is (.slice a4 ops.length c4)), (10, .is (.pointer (some ⟨b10, 0, none⟩))), (11, .is (.pointer (some ⟨b11, 0, none⟩))), (12, .is (.bool s.1))]) (fun s => [⟨b11, Z6, .rep (ExR s.2.1)⟩, PB T b s.2.2, ⟨b10, Z6, .is (.agg #[.int .i64 0, .int .i64 0, .int .i64 0, .string ⟨#[]⟩, .string ⟨#[]⟩, .string ⟨#[]⟩, .int .i64 0, .slice none 0 0])⟩]) (fun s => fun _ => True) (fun s => s.2.2 <:+ T.ts ∧ s.2.2.length ≤ ts.length ∧ chI p kd ops ts s) (fun s => 2 * s.2.2.length + s.1.toNat) (true, z1.1, z1.2) [0, 1, 2, 3, 4, 10, 11, 12] (.cons rfl (.cons rfl (.cons rfl (.cons rfl (.cons rfl (.cons rfl (.cons rfl (.cons rfl .nil)))))))) rfl (fun _ => trivial) ⟨((hpd _ _ hz1).1.trans hts), (hpd _ _ hz1).1.length_le, by unfold chI; rw [if_pos rfl]; unfold chainP; rw [hz1]; rfl⟩ fun ⟨mo, x, us⟩ ⟨hus, hul, hI⟩ => ?_
 try dsimp only
 try dsimp only at x
 try dsimp only at us
 try dsimp only at hus
 try dsimp only at hul
 try dsimp only at hI
 repeat apply Sq
 apply Pn
 refine Jt (Z0 rfl) rfl ?_
 apply Ni
 repeat first | apply Nx | apply Nb
 refine Sl [0, 1, 2, 3, 4, 10, 11, 18] (.cons rfl (.cons rfl (.cons rfl (.cons rfl (.cons rfl (.cons rfl (.cons rfl (.cons rfl .nil)))))))) ?_
 repeat apply Sq
 refine Cd rfl (fun ht18 => ?_) (fun ht18 => ?_)
 ·
  try simp only [dT, dF] at ht18
  apply Sk
  repeat first | apply Nx | apply Nb
  repeat apply Sq
  apply Bk
  obtain rfl : mo = true := ht18
  rw [chI, if_pos rfl] at hI
  repeat apply Sq
  apply Pn
  refine Jt (Z2 rfl) rfl ?_
  apply Ni
  repeat first | apply Nx | apply Nb
  refine Sl [0, 1, 2, 3, 4, 10, 11, 12] (.cons rfl (.cons rfl (.cons rfl (.cons rfl (.cons rfl (.cons rfl (.cons rfl (.cons rfl .nil)))))))) ?_
  repeat apply Sq
  apply Pn
  refine Jt (Z0 rfl) rfl ?_
  refine Jt (Zq Z21 rfl) rfl ?_
  refine Jt (Z0 rfl) rfl ?_
  apply Ni
  repeat first | apply Nx | apply Nb
  refine Sl [0, 1, 2, 3, 4, 10, 11, 12, 19, 20, 21] (.cons rfl (.cons rfl (.cons rfl (.cons rfl (.cons rfl (.cons rfl (.cons rfl (.cons rfl (.cons rfl (.cons rfl (.cons rfl .nil))))))))))) ?_
  repeat apply Sq
  apply Bk
  repeat apply Sq
  refine J.loopG (α := Nat) (fun i => [(0, .is (.pointer (some ⟨b, 0, none⟩))), (1, .is (fv fp)), (2, .is (.int .i64 kd)), (3, .is (.slice a3 ops.length c3)), (4, .is (.slice a4 ops.length c4)), (10, .is (.pointer (some ⟨b10, 0, none⟩))), (11, .is (.pointer (some ⟨b11, 0, none⟩))), (12, .is (.bool false)), (19, .is (.slice a3 ops.length c3)), (20, .is (.int .i64 (ops.length : Int))), (21, .is (.int .i64 (i : Int)))]) (fun i => [⟨b11, Z6, .rep (ExR x)⟩, PB T b us, ⟨b10, Z6, .is (.agg #[.int .i64 0, .int .i64 0, .int .i64 0, .string ⟨#[]⟩, .string ⟨#[]⟩, .string ⟨#[]⟩, .int .i64 0, .slice none 0 0])⟩]) (fun i => fun _ => True) (fun i => i ≤ ops.length ∧ opOf kd (ops.drop i) us = opOf kd ops us) (fun i => ops.length - i) 0 [0, 1, 2, 3, 4, 10, 11, 12, 19, 20, 21] (.cons rfl (.cons rfl (.cons rfl (.cons rfl (.cons rfl (.cons rfl (.cons rfl (.cons rfl (.cons rfl (.cons rfl (.cons rfl .nil))))))))))) rfl (fun _ => trivial) ⟨by omega, rfl⟩ fun i ⟨hi, hO⟩ => ?_
  try dsimp only
  try dsimp only at hi
  try dsimp only at hO
  repeat apply Sq
  apply Pn
  refine Jt (Z1h rfl rfl) rfl ?_
  apply Ni
  repeat first | apply Nx | apply Nb
  refine Sl [0, 1, 2, 3, 4, 10, 11, 12, 19, 20, 21, 22] (.cons rfl (.cons rfl (.cons rfl (.cons rfl (.cons rfl (.cons rfl (.cons rfl (.cons rfl (.cons rfl (.cons rfl (.cons rfl (.cons rfl .nil)))))))))))) ?_
  repeat apply Sq
  refine Cd rfl (fun ht22 => ?_) (fun ht22 => ?_)
  ·
   try simp only [dT, dF] at ht22
   apply Sk
   repeat first | apply Nx | apply Nb
   repeat apply Sq
   apply Bk
   repeat apply Sq
   apply Pn
   refine Jt (Z0 rfl) rfl ?_
   refine Jt (Za Z33 rfl (ha3 (by omega)) rfl (by omega) (by omega)) rfl ?_
   refine Jt (ZI (enc := sC) (sz := 1) (i := i) (j := 0) (y := (ops.getD i (em, 0)).1) (u := .string (ops.getD i (em, 0)).1) Zu rfl (by repeat first | exact Mh | apply Mt) (ha3 (by omega)) (Zja (by omega)) (by omega) rfl) rfl ?_
   refine Jt (Z2 rfl) rfl ?_
   refine Jt (Z2 rfl) rfl ?_
   apply Ni
   repeat first | apply Nx | apply Nb
   refine Sl [0, 1, 2, 3, 4, 10, 11, 12, 13, 14, 19, 20, 21] (.cons rfl (.cons rfl (.cons rfl (.cons rfl (.cons rfl (.cons rfl (.cons rfl (.cons rfl (.cons rfl (.cons rfl (.cons rfl (.cons rfl (.cons rfl .nil))))))))))))) ?_
   repeat apply Sq
   apply Pn
   refine Jt (Z0 rfl) rfl ?_
   refine Jt (Z0 rfl) rfl ?_
   refine Jt (Z0 rfl) rfl ?_
   refine JO.callK (Lr := [_, _]) (Z37 T hc b us hus kd (ops.getD i (em, 0)).1) rfl (.swap _ _ _) (fun F hF => by repeat (first | (rcases Mc.1 hF with rfl | hF; · (repeat first | exact Mh | apply Mt)) | (cases hF; done))) (.one rfl (.one rfl (.one rfl .nil))) ?_
   intro _ _
   try dsimp only [nA, cA]
   apply Ni
   repeat first | apply Nx | apply Nb
   refine Sl [0, 1, 2, 3, 4, 10, 11, 12, 13, 19, 20, 21, 29] (.cons rfl (.cons rfl (.cons rfl (.cons rfl (.cons rfl (.cons rfl (.cons rfl (.cons rfl (.cons rfl (.cons rfl (.cons rfl (.cons rfl (.cons rfl .nil))))))))))))) ?_
   repeat apply Sq
   refine Cd rfl (fun ht29 => ?_) (fun ht29 => ?_)
   ·
    try simp only [dT, dF] at ht29
    have hit : isT kd (ops.getD i (em, 0)).1 us = true := ht29
    have hop : opOf kd ops us = some (ops.getD i (em, 0)).2 := by rw [← hO, Z4d (by omega), if_pos hit]
    rw [ZO hit]
    repeat apply Sq
    refine J.regBgPm (Bad := p us.tail = none) (ch := flt) (G := { z : Ex × List T3 // p us.tail = some z }) 7 9 (fun hbad => ?_) (fun g => .rep (ExR g.1.1)) (fun g => [PB T b g.1.2] ++ [⟨b11, Z6, .rep (ExR x)⟩, ⟨b10, Z6, .is (.agg #[.int .i64 0, .int .i64 0, .int .i64 0, .string ⟨#[]⟩, .string ⟨#[]⟩, .string ⟨#[]⟩, .int .i64 0, .slice none 0 0])⟩]) ([⟨b11, Z6, .rep (ExR x)⟩, ⟨b10, Z6, .is (.agg #[.int .i64 0, .int .i64 0, .int .i64 0, .string ⟨#[]⟩, .string ⟨#[]⟩, .string ⟨#[]⟩, .int .i64 0, .slice none 0 0])⟩]) rfl rfl rfl rfl hmx (by kernel_rfl) rfl (by kernel_rfl) (fun _ h => List.mem_cons_of_mem _ h) (fun g o ho => List.mem_cons_of_mem _ ho) (by kernel_rfl) ?_
    · exact JX.pnI (by show chainP p kd ops ts = none; rw [hI, Z9x hpd hop, hbad]; rfl)
    refine Rq (Z0 rfl) ?_
    refine Rq (Z0 rfl) ?_
    refine Rq (Za Zfr rfl (ha4 (by omega)) rfl (by omega) (by omega)) ?_
    refine Rq (ZI (enc := iC) (sz := 1) (i := i) (j := 0) (y := (ops.getD i (em, 0)).2) (u := .int .i64 (ops.getD i (em, 0)).2) ZA rfl (by repeat first | exact Mh | apply Mt) (ha4 (by omega)) (Zj5 (by omega)) (by omega) rfl) ?_
    refine Rq (Z2M Ze rfl) ?_
    refine Rq (Z0 rfl) ?_
    refine Rq (Z0 rfl) ?_
    refine RT.biggP (Lq := [⟨b11, Z6, .rep (ExR x)⟩, ⟨b10, Z6, .is (.agg #[.int .i64 0, .int .i64 0, .int .i64 0, .string ⟨#[]⟩, .string ⟨#[]⟩, .string ⟨#[]⟩, .int .i64 0, .slice none 0 0])⟩]) (Z9z (cp := []) rfl (hpart us.tail (Zi hus) (by have := (Zr hit).2; omega)) (.refl _) (fun F hF => by repeat (first | (rcases Mc.1 hF with rfl | hF; · (repeat first | exact Mh | apply Mt)) | (cases hF; done))) (.one rfl .nil)) (fun g => ?_)
    refine Rq (Z8T ZL rfl rfl) ?_
    apply Rn
    obtain ⟨z, hg2⟩ := g
    try dsimp only
    have hlt := (Zr hit).2
    refine Jt (ZK rfl (Z2g (ops.getD i (em, 0)).2 [x, z.1]) (.one rfl (.one rfl .nil))) rfl ?_
    refine JO.m (Z3 rfl rfl (by repeat first | exact .here | apply Ut) (by first | exact cI rfl rfl | exact cE) (by first | exact cI rfl rfl | exact cE | exact cO) Zo) (by rfl) ?_
    refine Jt (Z2 rfl) rfl ?_
    apply Ni
    repeat first | apply Nx | apply Nb
    refine Sl [0, 1, 2, 3, 4, 10, 11, 12] (.cons rfl (.cons rfl (.cons rfl (.cons rfl (.cons rfl (.cons rfl (.cons rfl (.cons rfl .nil)))))))) ?_
    repeat apply Sq
    refine J.exit ?_
    repeat first | refine Ht ?_ | refine Ms rfl ?_ | refine Ep ?_
    repeat first | apply Nx | apply Nb
    repeat refine JX.normal_block ?_
    refine JX.roundG (x := (true, x, us)) (true, nd (ops.getD i (em, 0)).2 [x, z.1], z.2) ?_ ?_ [0, 1, 2, 3, 4, 10, 11, 12] ?_ ?_ ?_ ?_
    · exact ⟨((hpd _ _ hg2).1.trans (Zi hus)), (by have := (hpd _ _ hg2).2; show z.2.length ≤ ts.length; omega), by unfold chI; rw [if_pos rfl]; rw [hI, Z9x hpd hop, hg2]; rfl⟩
    · exact (by have := (hpd _ _ hg2).2; show 2 * z.2.length + 1 < 2 * us.length + true.toNat; simp; omega)
    · exact (.cons rfl (.cons rfl (.cons rfl (.cons rfl (.cons rfl (.cons rfl (.cons rfl (.cons rfl .nil))))))))
    · repeat (first | exact .all | exact .nil | refine Has.own (by repeat first | exact .here | apply Tl.past | apply Tl.there) ?_ | refine Has.cons (by repeat (first | exact .here | apply Pk.past | apply Pk.there)) ?_)
    · exact fun G hG => by repeat (first | exact hG | refine List.mem_cons_of_mem _ ?_)
    · exact fun _ _ _ => fun _ _ => trivial
   ·
    try simp only [dT, dF] at ht29
    apply Sk
    repeat first | apply Nx | apply Nb
    rw [ZQ ht29]
    repeat apply Sq
    apply Pn
    refine Jt (ZB (cc := ((i + 1 : Nat) : Int)) rfl rfl (by omega) (by omega) (by omega)) rfl ?_
    refine Jt (Z0 rfl) rfl ?_
    apply Ni
    repeat refine JX.normal_block ?_
    refine JX.roundG (x := i) (i + 1) ?_ ?_ [0, 1, 2, 3, 4, 10, 11, 12, 19, 20, 21] ?_ ?_ ?_ ?_
    · exact ⟨by omega, by rw [← hO, Z4d (i := i) (by omega), if_neg (by rw [ht29]; decide)]⟩
    · exact (by omega)
    · exact (.cons rfl (.cons rfl (.cons rfl (.cons rfl (.cons rfl (.cons rfl (.cons rfl (.cons rfl (.cons rfl (.cons rfl (.cons rfl .nil)))))))))))
    · repeat (first | exact .all | exact .nil | refine Has.own (by repeat first | exact .here | apply Tl.past | apply Tl.there) ?_ | refine Has.cons (by repeat (first | exact .here | apply Pk.past | apply Pk.there)) ?_)
    · exact fun G hG => by repeat (first | exact hG | refine List.mem_cons_of_mem _ ?_)
    · exact fun _ _ _ => fun _ _ => trivial
  ·
   try simp only [dT, dF] at ht22
   repeat apply Sq
   refine J.exit ?_
   repeat first | refine Ht ?_ | refine Ms rfl ?_ | refine Ep ?_
   repeat first | apply Nx | apply Nb
   repeat refine JX.normal_block ?_
   refine JX.roundG (x := (true, x, us)) (false, x, us) ?_ ?_ [0, 1, 2, 3, 4, 10, 11, 12] ?_ ?_ ?_ ?_
   · exact ⟨hus, hul, by unfold chI; rw [if_neg (by exact Bool.false_ne_true)]; rw [hI]; exact Zes (by rw [← hO, List.drop_eq_nil_of_le (by omega)]; rfl)⟩
   · exact (by show 2 * us.length + 0 < 2 * us.length + true.toNat; simp)
   · exact (.cons rfl (.cons rfl (.cons rfl (.cons rfl (.cons rfl (.cons rfl (.cons rfl (.cons rfl .nil))))))))
   · repeat (first | exact .all | exact .nil | refine Has.own (by repeat first | exact .here | apply Tl.past | apply Tl.there) ?_ | refine Has.cons (by repeat (first | exact .here | apply Pk.past | apply Pk.there)) ?_)
   · exact fun G hG => by repeat (first | exact hG | refine List.mem_cons_of_mem _ ?_)
   · exact fun _ _ _ => fun _ _ => trivial
 ·
  try simp only [dT, dF] at ht18
  repeat apply Sq
  refine J.exit ?_
  repeat first | refine Ht ?_ | refine Ms rfl ?_ | refine Ep ?_
  repeat first | apply Nx | apply Nb
  obtain rfl : mo = false := ht18
  rw [chI, if_neg (by exact Bool.false_ne_true)] at hI
  repeat apply Sq
  apply Pn
  refine Jt (Z2M Ze rfl) rfl ?_
  refine JO.m (Z3 rfl rfl (by repeat first | exact .here | apply Ut) (by first | exact cI rfl rfl | exact cE) (by first | exact cI rfl rfl | exact cE | exact cO) Zo) (by rfl) ?_
  apply Ni
  repeat first | apply Nx | apply Nb
  refine Sl [10] (.cons rfl .nil) ?_
  repeat apply Sq
  apply Rt
  repeat first | apply Rp | apply Rb
  refine JX.toP ?_
  exact JX.retLCs (Lr := [_, _]) (L1 := fun z : Ex × List T3 => [PB T b z.2]) (R := fun z => .rep (ExR z.1)) rfl (x, us) hI (.swap _ _ _) rfl rfl hb0 rfl Ze HasOwn.mem Z1s (Sub.refl _)
end Go.Proofs.YtbedigkncjbggaaGreatDoor
set_option maxRecDepth 20000
namespace Go.Proofs.YtbedigkncjbggaaGreatDoor
open Go Go.Vc
open Go.Pz
theorem Z62 (T : Tk) (hc : T.ts.length ≤ T.cap) (b : Nat) (ts : List T3) (hts : ts <:+ T.ts) (e : Ps Ex) (he : Dn0 e) (hpart : ∀ us, us <:+ T.ts → us.length ≤ ts.length → CallP Tryz.prog Z1p [PB T b (us)] [T.G, AF] [.is (.pointer (some ⟨b, 0, none⟩))] (factorP e (us) = none) flt (fun z : Ex × List T3 => factorP e (us) = some z) (fun z => [PB T b z.2]) (fun z => .rep (ExR z.1))) : CallP Tryz.prog Z20 [PB T b ts] [T.G, AF] [.is (.pointer (some ⟨b, 0, none⟩))] (prodP e ts = none) flt (fun z : Ex × List T3 => prodP e ts = some z) (fun z => [PB T b z.2]) (fun z => .rep (ExR z.1)) :=
CallP.of (fn := Tryz.f189) Tryz.func189 (n := 7) rfl rfl rfl (fun _ _ => by kernel_rfl) fun E W hb0 => by
 repeat apply Sq
 apply Pn
 refine JO.alloc Z16 rfl fun b2 => ?_
 apply Ni
 repeat first | apply Nx | apply Nb
 refine Sl [0, 2] (.cons rfl (.cons rfl .nil)) ?_
 repeat apply Sq
 apply Pn
 refine Jt (Z0 rfl) rfl ?_
 refine Jt (ZF (cs := [_, _, _]) Z1Y (by omega) (by omega) (.cons rfl (.cons rfl (.cons rfl .nil))) rfl rfl rfl) rfl ?_
 refine Jt (ZF (cs := [_, _, _]) Z6s (by omega) (by omega) (.cons rfl (.cons rfl (.cons rfl .nil))) rfl rfl rfl) rfl ?_
 refine JO.callPK (Lr := [_]) (Z2c T hc b ts hts (factorP e) (Z5B he) 5 mulO (by decide) Z1p hpart) rfl (.swap _ _ _) (fun F hF => by repeat (first | (rcases Mc.1 hF with rfl | hF; · (repeat first | exact Mh | apply Mt)) | (cases hF; done))) (.one rfl (.one rfl (.one rfl (.sub rfl (Sub.newSlG (en := sC) (sz := 1) (xs := [Z2i, Za1, ZdZ]) (fun _ => rfl) rfl rfl) (.sub rfl (Sub.newSlG (en := iC) (sz := 1) (xs := [7, 8, 9]) (fun _ => rfl) rfl rfl) .nil))))) (fun hbad => ?_) ?_
 · exact JX.pnI (hbad)
 intro z hz
 try dsimp only [nA, cA]
 refine JO.m (Z3 rfl rfl (by repeat first | exact .here | apply Ut) (by first | exact cI rfl rfl | exact cE) (by first | exact cI rfl rfl | exact cE | exact cO) Zo) (by rfl) ?_
 apply Ni
 repeat first | apply Nx | apply Nb
 refine Sl [2] (.cons rfl .nil) ?_
 repeat apply Sq
 apply Rt
 repeat first | apply Rp | apply Rb
 refine JX.toP ?_
 exact JX.retLCs (Lr := [_]) (L1 := fun z : Ex × List T3 => [PB T b z.2]) (R := fun z => .rep (ExR z.1)) rfl z hz (.refl _) rfl rfl hb0 rfl Ze HasOwn.mem Z1s (Sub.refl _)
theorem Z7F (T : Tk) (hc : T.ts.length ≤ T.cap) (b : Nat) (ts : List T3) (hts : ts <:+ T.ts) (e : Ps Ex) (he : Dn0 e) (hpart : ∀ us, us <:+ T.ts → us.length ≤ ts.length → CallP Tryz.prog Z20 [PB T b (us)] [T.G, AF] [.is (.pointer (some ⟨b, 0, none⟩))] (prodP e (us) = none) flt (fun z : Ex × List T3 => prodP e (us) = some z) (fun z => [PB T b z.2]) (fun z => .rep (ExR z.1))) : CallP Tryz.prog Z2s [PB T b ts] [T.G, AF] [.is (.pointer (some ⟨b, 0, none⟩))] (sumP e ts = none) flt (fun z : Ex × List T3 => sumP e ts = some z) (fun z => [PB T b z.2]) (fun z => .rep (ExR z.1)) :=
CallP.of (fn := Tryz.f178) Tryz.func178 (n := 7) rfl rfl rfl (fun _ _ => by kernel_rfl) fun E W hb0 => by
 repeat apply Sq
 apply Pn
 refine JO.alloc Z16 rfl fun b2 => ?_
 apply Ni
 repeat first | apply Nx | apply Nb
 refine Sl [0, 2] (.cons rfl (.cons rfl .nil)) ?_
 repeat apply Sq
 apply Pn
 refine Jt (Z0 rfl) rfl ?_
 refine Jt (ZF (cs := [_, _]) Z1Y (by omega) (by omega) (.cons rfl (.cons rfl .nil)) rfl rfl rfl) rfl ?_
 refine Jt (ZF (cs := [_, _]) Z6s (by omega) (by omega) (.cons rfl (.cons rfl .nil)) rfl rfl rfl) rfl ?_
 refine JO.callPK (Lr := [_]) (Z2c T hc b ts hts (prodP e) (Z9p he) 5 addO (by decide) Z20 hpart) rfl (.swap _ _ _) (fun F hF => by repeat (first | (rcases Mc.1 hF with rfl | hF; · (repeat first | exact Mh | apply Mt)) | (cases hF; done))) (.one rfl (.one rfl (.one rfl (.sub rfl (Sub.newSlG (en := sC) (sz := 1) (xs := [Zbz, Z3n]) (fun _ => rfl) rfl rfl) (.sub rfl (Sub.newSlG (en := iC) (sz := 1) (xs := [5, 6]) (fun _ => rfl) rfl rfl) .nil))))) (fun hbad => ?_) ?_
 · exact JX.pnI (hbad)
 intro z hz
 try dsimp only [nA, cA]
 refine JO.m (Z3 rfl rfl (by repeat first | exact .here | apply Ut) (by first | exact cI rfl rfl | exact cE) (by first | exact cI rfl rfl | exact cE | exact cO) Zo) (by rfl) ?_
 apply Ni
 repeat first | apply Nx | apply Nb
 refine Sl [2] (.cons rfl .nil) ?_
 repeat apply Sq
 apply Rt
 repeat first | apply Rp | apply Rb
 refine JX.toP ?_
 exact JX.retLCs (Lr := [_]) (L1 := fun z : Ex × List T3 => [PB T b z.2]) (R := fun z => .rep (ExR z.1)) rfl z hz (.refl _) rfl rfl hb0 rfl Ze HasOwn.mem Z1s (Sub.refl _)
theorem Z7D (T : Tk) (hc : T.ts.length ≤ T.cap) (b : Nat) (ts : List T3) (hts : ts <:+ T.ts) (e : Ps Ex) (he : Dn0 e) (hpart : ∀ us, us <:+ T.ts → us.length ≤ ts.length → CallP Tryz.prog Z1H [PB T b (us)] [T.G, AF] [.is (.pointer (some ⟨b, 0, none⟩))] (notP e (us) = none) flt (fun z : Ex × List T3 => notP e (us) = some z) (fun z => [PB T b z.2]) (fun z => .rep (ExR z.1))) : CallP Tryz.prog Z2u [PB T b ts] [T.G, AF] [.is (.pointer (some ⟨b, 0, none⟩))] (andP e ts = none) flt (fun z : Ex × List T3 => andP e ts = some z) (fun z => [PB T b z.2]) (fun z => .rep (ExR z.1)) :=
CallP.of (fn := Tryz.f146) Tryz.func146 (n := 7) rfl rfl rfl (fun _ _ => by kernel_rfl) fun E W hb0 => by
 repeat apply Sq
 apply Pn
 refine JO.alloc Z16 rfl fun b2 => ?_
 apply Ni
 repeat first | apply Nx | apply Nb
 refine Sl [0, 2] (.cons rfl (.cons rfl .nil)) ?_
 repeat apply Sq
 apply Pn
 refine Jt (Z0 rfl) rfl ?_
 refine Jt (ZF (cs := [_]) Z1Y (by omega) (by omega) (.cons rfl .nil) rfl rfl rfl) rfl ?_
 refine Jt (ZF (cs := [_]) Z6s (by omega) (by omega) (.cons rfl .nil) rfl rfl rfl) rfl ?_
 refine JO.callPK (Lr := [_]) (Z2c T hc b ts hts (notP e) (Z8A he) 1 [(Z57, 16)] (by decide) Z1H hpart) rfl (.swap _ _ _) (fun F hF => by repeat (first | (rcases Mc.1 hF with rfl | hF; · (repeat first | exact Mh | apply Mt)) | (cases hF; done))) (.one rfl (.one rfl (.one rfl (.sub rfl (Sub.newSlG (en := sC) (sz := 1) (xs := [Z57]) (fun _ => rfl) rfl rfl) (.sub rfl (Sub.newSlG (en := iC) (sz := 1) (xs := [16]) (fun _ => rfl) rfl rfl) .nil))))) (fun hbad => ?_) ?_
 · exact JX.pnI (hbad)
 intro z hz
 try dsimp only [nA, cA]
 refine JO.m (Z3 rfl rfl (by repeat first | exact .here | apply Ut) (by first | exact cI rfl rfl | exact cE) (by first | exact cI rfl rfl | exact cE | exact cO) Zo) (by rfl) ?_
 apply Ni
 repeat first | apply Nx | apply Nb
 refine Sl [2] (.cons rfl .nil) ?_
 repeat apply Sq
 apply Rt
 repeat first | apply Rp | apply Rb
 refine JX.toP ?_
 exact JX.retLCs (Lr := [_]) (L1 := fun z : Ex × List T3 => [PB T b z.2]) (R := fun z => .rep (ExR z.1)) rfl z hz (.refl _) rfl rfl hb0 rfl Ze HasOwn.mem Z1s (Sub.refl _)
theorem Z7k (T : Tk) (hc : T.ts.length ≤ T.cap) (b : Nat) (ts : List T3) (hts : ts <:+ T.ts) (e : Ps Ex) (he : Dn0 e) (hpart : ∀ us, us <:+ T.ts → us.length ≤ ts.length → CallP Tryz.prog Z2u [PB T b (us)] [T.G, AF] [.is (.pointer (some ⟨b, 0, none⟩))] (andP e (us) = none) flt (fun z : Ex × List T3 => andP e (us) = some z) (fun z => [PB T b z.2]) (fun z => .rep (ExR z.1))) : CallP Tryz.prog Zx [PB T b ts] [T.G, AF] [.is (.pointer (some ⟨b, 0, none⟩))] (orP e ts = none) flt (fun z : Ex × List T3 => orP e ts = some z) (fun z => [PB T b z.2]) (fun z => .rep (ExR z.1)) :=
CallP.of (fn := Tryz.f113) Tryz.func113 (n := 7) rfl rfl rfl (fun _ _ => by kernel_rfl) fun E W hb0 => by
 repeat apply Sq
 apply Pn
 refine JO.alloc Z16 rfl fun b2 => ?_
 apply Ni
 repeat first | apply Nx | apply Nb
 refine Sl [0, 2] (.cons rfl (.cons rfl .nil)) ?_
 repeat apply Sq
 apply Pn
 refine Jt (Z0 rfl) rfl ?_
 refine Jt (ZF (cs := [_]) Z1Y (by omega) (by omega) (.cons rfl .nil) rfl rfl rfl) rfl ?_
 refine Jt (ZF (cs := [_]) Z6s (by omega) (by omega) (.cons rfl .nil) rfl rfl rfl) rfl ?_
 refine JO.callPK (Lr := [_]) (Z2c T hc b ts hts (andP e) (Zap he) 1 [(w_OR, 17)] (by decide) Z2u hpart) rfl (.swap _ _ _) (fun F hF => by repeat (first | (rcases Mc.1 hF with rfl | hF; · (repeat first | exact Mh | apply Mt)) | (cases hF; done))) (.one rfl (.one rfl (.one rfl (.sub rfl (Sub.newSlG (en := sC) (sz := 1) (xs := [w_OR]) (fun _ => rfl) rfl rfl) (.sub rfl (Sub.newSlG (en := iC) (sz := 1) (xs := [17]) (fun _ => rfl) rfl rfl) .nil))))) (fun hbad => ?_) ?_
 · exact JX.pnI (hbad)
 intro z hz
 try dsimp only [nA, cA]
 refine JO.m (Z3 rfl rfl (by repeat first | exact .here | apply Ut) (by first | exact cI rfl rfl | exact cE) (by first | exact cI rfl rfl | exact cE | exact cO) Zo) (by rfl) ?_
 apply Ni
 repeat first | apply Nx | apply Nb
 refine Sl [2] (.cons rfl .nil) ?_
 repeat apply Sq
 apply Rt
 repeat first | apply Rp | apply Rb
 refine JX.toP ?_
 exact JX.retLCs (Lr := [_]) (L1 := fun z : Ex × List T3 => [PB T b z.2]) (R := fun z => .rep (ExR z.1)) rfl z hz (.refl _) rfl rfl hb0 rfl Ze HasOwn.mem Z1s (Sub.refl _)
end Go.Proofs.YtbedigkncjbggaaGreatDoor
