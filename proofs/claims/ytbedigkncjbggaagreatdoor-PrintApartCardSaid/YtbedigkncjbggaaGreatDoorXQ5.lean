/- The library's functions behind value.Show and print, out of the kit's shelf. No condition. -/
import Derived.Test.YtbedigkncjbggaaGreatDoorXQ3
import Derived.Test.YtbedigkncjbggaaGreatDoorXQ4
import Derived.Test.YtbedigkncjbggaaGreatDoorXG4
import Derived.Shelf.Small.Wraps
import Derived.Shelf.LaysM
import Derived.Shelf.Strconv.Itoa4
import Derived.Shelf.Strings.Replace
import Derived.Lib.AppendIntMem
import Derived.Test.YtbedigkncjbggaaGreatDoorXQ1
import Derived.Test.YtbedigkncjbggaaGreatDoorXQ2
set_option maxRecDepth 20000
namespace Go.Proofs.YtbedigkncjbggaaGreatDoor
open Go Go.Vc Go.Shelf
def ZaN : Go.Shelf.Ren := ⟨fun | 156 => 44 | 165 => 80 | 166 => 81 | 169 => 82 | 240 => 129 | 241 => 130 | 276 => 147 | 277 => 148 | n => n, fun | 31 => 24 | 9 => 9 | 3 => 3 | 4 => 4 | 0 => 0 | 20 => 20 | 72 => 118 | 76 => 122 | 70 => 116 | 37 => 37 | 75 => 121 | 127 => 160 | 164 => 172 | 5 => 5 | 80 => 72 | n => n, fun | n => n⟩
theorem lays156 : Go.Proofs.Lays.n156 Tryz.prog ZaN := {
 mixed := by kernel_rfl
 f156 := Tryz.func44.trans (congrArg some qK)
 f165 := Tryz.func80.trans (congrArg some qK)
 f166 := Tryz.func81.trans (congrArg some qK)
 f169 := Tryz.func82.trans (congrArg some qK)
 f240 := Tryz.func129.trans (congrArg some qK)
 f241 := Tryz.func130.trans (congrArg some qK)
 f276 := Tryz.func147.trans (congrArg some qK)
 f277 := Tryz.func148.trans (congrArg some qK)
 t0 := Tryz.underlying0
 a0 := Tryz.isAgg0
 z0 := Tryz.sizeOf0
 v0 := Tryz.zeroValue0
 t3 := Tryz.underlying3
 a3 := Tryz.isAgg3
 z3 := Tryz.sizeOf3
 v3 := Tryz.zeroValue3
 t4 := Tryz.underlying4
 a4 := Tryz.isAgg4
 z4 := Tryz.sizeOf4
 v4 := Tryz.zeroValue4
 t9 := Tryz.underlying9
 a9 := Tryz.isAgg9
 z9 := Tryz.sizeOf9
 v9 := Tryz.zeroValue9
 t20 := Tryz.underlying20
 a20 := Tryz.isAgg20
 z20 := Tryz.sizeOf20
 v20 := Tryz.zeroValue20
 t31 := Tryz.underlying24
 a31 := Tryz.isAgg24
 z31 := Tryz.sizeOf24
 v31 := Tryz.zeroValue24
 t37 := Tryz.underlying37
 a37 := Tryz.isAgg37
 z37 := Tryz.sizeOf37
 v37 := Tryz.zeroValue37
 t70 := Tryz.underlying116
 a70 := Tryz.isAgg116
 z70 := Tryz.sizeOf116
 v70 := Tryz.zeroValue116
 t72 := Tryz.underlying118
 a72 := Tryz.isAgg118
 z72 := Tryz.sizeOf118
 v72 := Tryz.zeroValue118
 t75 := Tryz.underlying121
 a75 := Tryz.isAgg121
 z75 := Tryz.sizeOf121
 v75 := Tryz.zeroValue121
 t76 := Tryz.underlying122
 a76 := Tryz.isAgg122
 z76 := Tryz.sizeOf122
 v76 := Tryz.zeroValue122
 t127 := Tryz.underlying160
 a127 := Tryz.isAgg160
 z127 := Tryz.sizeOf160
 v127 := Tryz.zeroValue160
 t164 := Tryz.underlying172
 a164 := Tryz.isAgg172
 z164 := Tryz.sizeOf172
 v164 := Tryz.zeroValue172 }
theorem extra156 : Builder.Extra Tryz.prog ZaN := {
 sizeBuilder := by kernel_rfl
 liesBuilder := by kernel_rfl
 t5 := Tryz.underlying5
 a5 := Tryz.isAgg5
 z5 := Tryz.sizeOf5
 v5 := Tryz.zeroValue5
 infoByte := by kernel_rfl
 cellsByte := by kernel_rfl
 sizeByte := by kernel_rfl
 neB5 := by decide }
open Go.RowKit in
def Zl5 : Go.Shelf.Ren := ⟨fun | 214 => 136 | n => n, fun | 4 => 4 | 9 => 9 | n => n, fun | n => n⟩
open Go.RowKit in
def Zep : Go.Shelf.Ren := ⟨fun | 121 => 94 | 214 => 136 | n => n, fun | 4 => 4 | 9 => 9 | n => n, fun | n => n⟩
theorem lays121 : Go.Proofs.Lays.n121 Tryz.prog Zep := {
 mixed := by kernel_rfl
 f121 := Tryz.func94.trans (congrArg some qK)
 f214 := Tryz.func136.trans (congrArg some qK)
 t4 := Tryz.underlying4
 a4 := Tryz.isAgg4
 z4 := Tryz.sizeOf4
 v4 := Tryz.zeroValue4
 t9 := Tryz.underlying9
 a9 := Tryz.isAgg9
 z9 := Tryz.sizeOf9
 v9 := Tryz.zeroValue9 }
open Go.RowKit in
def Zdi : Go.Shelf.Ren := ⟨fun | 171 => 90 | 243 => 131 | 246 => 132 | 283 => 149 | 284 => 150 | 285 => 151 | 286 => 152 | 129 => 167 | 317 => 166 | 318 => 168 | 319 => 169 | 320 => 170 | 337 => 179 | 338 => 180 | n => n, fun | 3 => 3 | 9 => 9 | 2 => 2 | 4 => 4 | 171 => 175 | 0 => 0 | 53 => 136 | 37 => 37 | 5 => 5 | 173 => 178 | 212 => 193 | 51 => 194 | 20 => 20 | 213 => 195 | 46 => 161 | 232 => 225 | 233 => 226 | n => n, fun | 17 => 2 | 18 => 7 | 19 => 8 | n => n⟩
theorem laysM171 : Go.Proofs.LaysM.n171 Tryz.prog Zdi := {
 mixed := by kernel_rfl
 f129 := Tryz.func167.trans (congrArg some qK)
 f171 := Tryz.func90.trans (congrArg some qK)
 f243 := Tryz.func131.trans (congrArg some qK)
 f246 := Tryz.func132.trans (congrArg some qK)
 f283 := Tryz.func149.trans (congrArg some qK)
 f284 := Tryz.func150.trans (congrArg some qK)
 f285 := Tryz.func151.trans (congrArg some qK)
 f286 := Tryz.func152.trans (congrArg some qK)
 f317 := Tryz.func166.trans (congrArg some qK)
 f318 := Tryz.func168.trans (congrArg some qK)
 f319 := Tryz.func169.trans (congrArg some qK)
 f320 := Tryz.func170.trans (congrArg some qK)
 f337 := Tryz.func179.trans (congrArg some qK)
 f338 := Tryz.func180.trans (congrArg some qK)
 t0 := Tryz.underlying0
 a0 := Tryz.isAgg0
 z0 := Tryz.sizeOf0
 v0 := Tryz.zeroValue0
 t2 := Tryz.underlying2
 a2 := Tryz.isAgg2
 z2 := Tryz.sizeOf2
 v2 := Tryz.zeroValue2
 t3 := Tryz.underlying3
 a3 := Tryz.isAgg3
 z3 := Tryz.sizeOf3
 v3 := Tryz.zeroValue3
 t4 := Tryz.underlying4
 a4 := Tryz.isAgg4
 z4 := Tryz.sizeOf4
 v4 := Tryz.zeroValue4
 t5 := Tryz.underlying5
 a5 := Tryz.isAgg5
 z5 := Tryz.sizeOf5
 v5 := Tryz.zeroValue5
 t9 := Tryz.underlying9
 a9 := Tryz.isAgg9
 z9 := Tryz.sizeOf9
 v9 := Tryz.zeroValue9
 t20 := Tryz.underlying20
 a20 := Tryz.isAgg20
 z20 := Tryz.sizeOf20
 v20 := Tryz.zeroValue20
 t37 := Tryz.underlying37
 a37 := Tryz.isAgg37
 z37 := Tryz.sizeOf37
 v37 := Tryz.zeroValue37
 t46 := Tryz.underlying161
 a46 := Tryz.isAgg161
 z46 := Tryz.sizeOf161
 v46 := Tryz.zeroValue161
 t51 := Tryz.underlying194
 a51 := Tryz.isAgg194
 z51 := Tryz.sizeOf194
 v51 := Tryz.zeroValue194
 t53 := Tryz.underlying136
 a53 := Tryz.isAgg136
 z53 := Tryz.sizeOf136
 v53 := Tryz.zeroValue136
 t171 := Tryz.underlying175
 a171 := Tryz.isAgg175
 z171 := Tryz.sizeOf175
 v171 := Tryz.zeroValue175
 t173 := Tryz.underlying178
 a173 := Tryz.isAgg178
 z173 := Tryz.sizeOf178
 v173 := Tryz.zeroValue178
 t212 := Tryz.underlying193
 a212 := Tryz.isAgg193
 z212 := Tryz.sizeOf193
 v212 := Tryz.zeroValue193
 t213 := Tryz.underlying195
 a213 := Tryz.isAgg195
 z213 := Tryz.sizeOf195
 t232 := Tryz.underlying225
 a232 := Tryz.isAgg225
 z232 := Tryz.sizeOf225
 v232 := Tryz.zeroValue225
 t233 := Tryz.underlying226
 a233 := Tryz.isAgg226
 z233 := Tryz.sizeOf226
 v233 := Tryz.zeroValue226
 g17 := by kernel_rfl
 g18 := by kernel_rfl
 g19 := by kernel_rfl
 i0 := by kernel_rfl
 i2 := by kernel_rfl
 i3 := by kernel_rfl
 i4 := by kernel_rfl
 i5 := by kernel_rfl
 i9 := by kernel_rfl
 i20 := by kernel_rfl
 i37 := by kernel_rfl
 i46 := by kernel_rfl
 i51 := by kernel_rfl
 i53 := by kernel_rfl
 i171 := by kernel_rfl
 i173 := by kernel_rfl
 i212 := by kernel_rfl
 i232 := by kernel_rfl
 i233 := by kernel_rfl
 m17 := by kernel_rfl
 m18 := by kernel_rfl
 m19 := by kernel_rfl }
open Go.RowKit Go.Sort Go.Lib in
def ZdJ : Go.Shelf.Ren := ⟨fun | 173 => 92 | 246 => 132 | 283 => 149 | 284 => 150 | 285 => 151 | 286 => 152 | 129 => 167 | 317 => 166 | 318 => 168 | 319 => 169 | 320 => 170 | 337 => 179 | 338 => 180 | n => n, fun | 2 => 2 | 3 => 3 | 9 => 9 | 4 => 4 | 171 => 175 | 0 => 0 | 53 => 136 | 37 => 37 | 5 => 5 | 173 => 178 | 212 => 193 | 51 => 194 | 20 => 20 | 213 => 195 | 46 => 161 | 232 => 225 | 233 => 226 | n => n, fun | 17 => 2 | 18 => 7 | 19 => 8 | n => n⟩
theorem laysM173 : Go.Proofs.LaysM.n173 Tryz.prog ZdJ := {
 mixed := by kernel_rfl
 f129 := Tryz.func167.trans (congrArg some qK)
 f173 := Tryz.func92.trans (congrArg some qK)
 f246 := Tryz.func132.trans (congrArg some qK)
 f283 := Tryz.func149.trans (congrArg some qK)
 f284 := Tryz.func150.trans (congrArg some qK)
 f285 := Tryz.func151.trans (congrArg some qK)
 f286 := Tryz.func152.trans (congrArg some qK)
 f317 := Tryz.func166.trans (congrArg some qK)
 f318 := Tryz.func168.trans (congrArg some qK)
 f319 := Tryz.func169.trans (congrArg some qK)
 f320 := Tryz.func170.trans (congrArg some qK)
 f337 := Tryz.func179.trans (congrArg some qK)
 f338 := Tryz.func180.trans (congrArg some qK)
 t0 := Tryz.underlying0
 a0 := Tryz.isAgg0
 z0 := Tryz.sizeOf0
 v0 := Tryz.zeroValue0
 t2 := Tryz.underlying2
 a2 := Tryz.isAgg2
 z2 := Tryz.sizeOf2
 v2 := Tryz.zeroValue2
 t3 := Tryz.underlying3
 a3 := Tryz.isAgg3
 z3 := Tryz.sizeOf3
 v3 := Tryz.zeroValue3
 t4 := Tryz.underlying4
 a4 := Tryz.isAgg4
 z4 := Tryz.sizeOf4
 v4 := Tryz.zeroValue4
 t5 := Tryz.underlying5
 a5 := Tryz.isAgg5
 z5 := Tryz.sizeOf5
 v5 := Tryz.zeroValue5
 t9 := Tryz.underlying9
 a9 := Tryz.isAgg9
 z9 := Tryz.sizeOf9
 v9 := Tryz.zeroValue9
 t20 := Tryz.underlying20
 a20 := Tryz.isAgg20
 z20 := Tryz.sizeOf20
 v20 := Tryz.zeroValue20
 t37 := Tryz.underlying37
 a37 := Tryz.isAgg37
 z37 := Tryz.sizeOf37
 v37 := Tryz.zeroValue37
 t46 := Tryz.underlying161
 a46 := Tryz.isAgg161
 z46 := Tryz.sizeOf161
 v46 := Tryz.zeroValue161
 t51 := Tryz.underlying194
 a51 := Tryz.isAgg194
 z51 := Tryz.sizeOf194
 v51 := Tryz.zeroValue194
 t53 := Tryz.underlying136
 a53 := Tryz.isAgg136
 z53 := Tryz.sizeOf136
 v53 := Tryz.zeroValue136
 t171 := Tryz.underlying175
 a171 := Tryz.isAgg175
 z171 := Tryz.sizeOf175
 v171 := Tryz.zeroValue175
 t173 := Tryz.underlying178
 a173 := Tryz.isAgg178
 z173 := Tryz.sizeOf178
 v173 := Tryz.zeroValue178
 t212 := Tryz.underlying193
 a212 := Tryz.isAgg193
 z212 := Tryz.sizeOf193
 v212 := Tryz.zeroValue193
 t213 := Tryz.underlying195
 a213 := Tryz.isAgg195
 z213 := Tryz.sizeOf195
 t232 := Tryz.underlying225
 a232 := Tryz.isAgg225
 z232 := Tryz.sizeOf225
 v232 := Tryz.zeroValue225
 t233 := Tryz.underlying226
 a233 := Tryz.isAgg226
 z233 := Tryz.sizeOf226
 v233 := Tryz.zeroValue226
 g17 := by kernel_rfl
 g18 := by kernel_rfl
 g19 := by kernel_rfl
 i0 := by kernel_rfl
 i2 := by kernel_rfl
 i3 := by kernel_rfl
 i4 := by kernel_rfl
 i5 := by kernel_rfl
 i9 := by kernel_rfl
 i20 := by kernel_rfl
 i37 := by kernel_rfl
 i46 := by kernel_rfl
 i51 := by kernel_rfl
 i53 := by kernel_rfl
 i171 := by kernel_rfl
 i173 := by kernel_rfl
 i212 := by kernel_rfl
 i232 := by kernel_rfl
 i233 := by kernel_rfl
 m17 := by kernel_rfl
 m18 := by kernel_rfl
 m19 := by kernel_rfl }
open Go.RowKit Go.Sort Go.Lib in
def ZaC : Go.Shelf.Ren := ⟨fun | 155 => 95 | 154 => 137 | 138 => 158 | 165 => 80 | 143 => 159 | 166 => 81 | 197 => 153 | 169 => 82 | 195 => 174 | 218 => 175 | 240 => 129 | 241 => 130 | 219 => 176 | 260 => 171 | 276 => 147 | 277 => 148 | 217 => 138 | 225 => 184 | 224 => 185 | 267 => 186 | 266 => 160 | 314 => 190 | n => n, fun | 9 => 9 | 3 => 3 | 4 => 4 | 72 => 118 | 0 => 0 | 76 => 122 | 105 => 180 | 21 => 21 | 5 => 5 | 70 => 116 | 20 => 20 | 37 => 37 | 75 => 121 | 127 => 160 | 164 => 172 | 46 => 161 | 119 => 187 | 139 => 210 | 138 => 209 | 146 => 231 | 51 => 194 | 80 => 72 | n => n, fun | 1 => 1 | 3 => 5 | 4 => 6 | n => n⟩
theorem lays155 : Go.Proofs.Lays.n155 Tryz.prog ZaC := {
 mixed := by kernel_rfl
 f138 := Tryz.func158.trans (congrArg some qK)
 f143 := Tryz.func159.trans (congrArg some qK)
 f154 := Tryz.func137.trans (congrArg some qK)
 f155 := Tryz.func95.trans (congrArg some qK)
 f165 := Tryz.func80.trans (congrArg some qK)
 f166 := Tryz.func81.trans (congrArg some qK)
 f169 := Tryz.func82.trans (congrArg some qK)
 f195 := Tryz.func174.trans (congrArg some qK)
 f197 := Tryz.func153.trans (congrArg some qK)
 f217 := Tryz.func138.trans (congrArg some qK)
 f218 := Tryz.func175.trans (congrArg some qK)
 f219 := Tryz.func176.trans (congrArg some qK)
 f224 := Tryz.func185.trans (congrArg some qK)
 f225 := Tryz.func184.trans (congrArg some qK)
 f240 := Tryz.func129.trans (congrArg some qK)
 f241 := Tryz.func130.trans (congrArg some qK)
 f260 := Tryz.func171.trans (congrArg some qK)
 f266 := Tryz.func160.trans (congrArg some qK)
 f267 := Tryz.func186.trans (congrArg some qK)
 f276 := Tryz.func147.trans (congrArg some qK)
 f277 := Tryz.func148.trans (congrArg some qK)
 f314 := Tryz.func190.trans (congrArg some qK)
 t0 := Tryz.underlying0
 a0 := Tryz.isAgg0
 z0 := Tryz.sizeOf0
 v0 := Tryz.zeroValue0
 t3 := Tryz.underlying3
 a3 := Tryz.isAgg3
 z3 := Tryz.sizeOf3
 v3 := Tryz.zeroValue3
 t4 := Tryz.underlying4
 a4 := Tryz.isAgg4
 z4 := Tryz.sizeOf4
 v4 := Tryz.zeroValue4
 t5 := Tryz.underlying5
 a5 := Tryz.isAgg5
 z5 := Tryz.sizeOf5
 v5 := Tryz.zeroValue5
 t9 := Tryz.underlying9
 a9 := Tryz.isAgg9
 z9 := Tryz.sizeOf9
 v9 := Tryz.zeroValue9
 t20 := Tryz.underlying20
 a20 := Tryz.isAgg20
 z20 := Tryz.sizeOf20
 v20 := Tryz.zeroValue20
 t21 := Tryz.underlying21
 a21 := Tryz.isAgg21
 z21 := Tryz.sizeOf21
 v21 := Tryz.zeroValue21
 t37 := Tryz.underlying37
 a37 := Tryz.isAgg37
 z37 := Tryz.sizeOf37
 v37 := Tryz.zeroValue37
 t46 := Tryz.underlying161
 a46 := Tryz.isAgg161
 z46 := Tryz.sizeOf161
 v46 := Tryz.zeroValue161
 t51 := Tryz.underlying194
 a51 := Tryz.isAgg194
 z51 := Tryz.sizeOf194
 v51 := Tryz.zeroValue194
 t70 := Tryz.underlying116
 a70 := Tryz.isAgg116
 z70 := Tryz.sizeOf116
 v70 := Tryz.zeroValue116
 t72 := Tryz.underlying118
 a72 := Tryz.isAgg118
 z72 := Tryz.sizeOf118
 v72 := Tryz.zeroValue118
 t75 := Tryz.underlying121
 a75 := Tryz.isAgg121
 z75 := Tryz.sizeOf121
 v75 := Tryz.zeroValue121
 t76 := Tryz.underlying122
 a76 := Tryz.isAgg122
 z76 := Tryz.sizeOf122
 v76 := Tryz.zeroValue122
 t105 := Tryz.underlying180
 a105 := Tryz.isAgg180
 z105 := Tryz.sizeOf180
 v105 := Tryz.zeroValue180
 t119 := Tryz.underlying187
 a119 := Tryz.isAgg187
 z119 := Tryz.sizeOf187
 t127 := Tryz.underlying160
 a127 := Tryz.isAgg160
 z127 := Tryz.sizeOf160
 v127 := Tryz.zeroValue160
 t138 := Tryz.underlying209
 a138 := Tryz.isAgg209
 z138 := Tryz.sizeOf209
 v138 := Tryz.zeroValue209
 t139 := Tryz.underlying210
 a139 := Tryz.isAgg210
 z139 := Tryz.sizeOf210
 v139 := Tryz.zeroValue210
 t146 := Tryz.underlying231
 a146 := Tryz.isAgg231
 z146 := Tryz.sizeOf231
 v146 := Tryz.zeroValue231
 t164 := Tryz.underlying172
 a164 := Tryz.isAgg172
 z164 := Tryz.sizeOf172
 v164 := Tryz.zeroValue172
 g1 := by kernel_rfl
 g3 := by kernel_rfl
 g4 := by kernel_rfl }
theorem extra155 : Builder.Extra Tryz.prog ZaC := {
 sizeBuilder := by kernel_rfl
 liesBuilder := by kernel_rfl
 t5 := Tryz.underlying5
 a5 := Tryz.isAgg5
 z5 := Tryz.sizeOf5
 v5 := Tryz.zeroValue5
 infoByte := by kernel_rfl
 cellsByte := by kernel_rfl
 sizeByte := by kernel_rfl
 neB5 := by decide }
open Go.RowKit Go.Lib in
def TF (w : World) : Prop := Lib.TabIs Tryz.prog w "internal/strconv.uint64pow10" .u64 Lib.pow10Tab
theorem Z8X (b : Bool) : CallTy Tryz.prog Z8M [.is (.bool b)] (.is (.string ⟨(Lib.formatBool b).toArray⟩)) :=
 .ofShelf0 (ws := [.bool b]) (fun _ _ => by kernel_rfl) fun w => Any.strconv_FormatBool lays121 b w
theorem Z9u (n : Int) (h0 : -9223372036854775808 ≤ n) (h1 : n ≤ 9223372036854775807) : CallF Tryz.prog Z9t [TF] [.is (.int .i64 n), .is (.int .i64 10)] (.is (.string ⟨(Lib.itoa n).toArray⟩)) :=
 .ofShelf (ws := [.int .i64 n, .int .i64 10]) (fun _ _ => by kernel_rfl) fun w hw =>
  (Any.strconv_FormatInt_10 laysM173 n h0 h1 w (hw TF (by simp))).mono fun e w' ⟨h1, k, os, h2⟩ => ⟨h1, h2 ▸ Lib.below_grow _ w (Nat.le_refl _) k os⟩
theorem Z8f (n : Int) (h0 : -9223372036854775808 ≤ n) (h1 : n ≤ 9223372036854775807) : CallF Tryz.prog Zc0 [TF] [.is (.int .i64 n)] (.is (.string ⟨(Lib.itoa n).toArray⟩)) :=
 .ofShelf (ws := [.int .i64 n]) (fun _ _ => by kernel_rfl) fun w hw =>
  (Any.strconv_Itoa laysM171 n h0 h1 w (hw TF (by simp))).mono fun e w' ⟨h1, k, os, h2⟩ => ⟨h1, h2 ▸ Lib.below_grow _ w (Nat.le_refl _) k os⟩
theorem Z8Y (s : ByteArray) (c : UInt8) (new : ByteArray) (hs : s.size ≤ 2048) (hn : new.size ≤ 2) (hne : ([c] == new.data.toList) = false) : CallF Tryz.prog Z9d [GF] [.is (.string s), .is (.string ⟨#[c]⟩), .is (.string new)] (.is (.string ⟨(repL c new.data.toList s.data.toList).toArray⟩)) := by
 rw [← ZbL c _ _ hne]
 refine .ofShelf (ws := [.string s, .string ⟨#[c]⟩, .string new]) (fun _ _ => by kernel_rfl) fun w hw => ?_
 obtain ⟨m, hm⟩ := hw GF (by simp)
 have hc : Lib.countB s ⟨#[c]⟩ ≤ s.data.toList.length := Z9O c s.data.toList
 rw [Z1q] at hc
 have hp : Lib.countB s ⟨#[c]⟩ * new.size ≤ 2048 * 2 := Nat.mul_le_mul qM hn
 exact Any.strings_ReplaceAll lays155 extra155 s ⟨#[c]⟩ new m w qM hm (by show 1 ≤ 1; omega) qM
theorem Z2y (xs : List ByteArray) (sep : ByteArray) (hn : xs.length ≤ 140737488355328) (hl : (Lib.join (xs.map (·.data.toList)) sep.data.toList).length ≤ 140737488355328) : CallTy Tryz.prog Z6c [.rep (SlE Pz.stE noS xs), .is (.string sep)] (.is (.string ⟨(Lib.join (xs.map (·.data.toList)) sep.data.toList).toArray⟩)) :=
 ⟨fun _ _ => by kernel_rfl, fun E w vs hw ht => by
   obtain ⟨v, rfl, hv⟩ : ∃ v, vs = [v, .string sep] ∧ Pers E w (SlE Pz.stE noS xs v) := by
     cases vs with
     | nil => exact ht.elim
     | cons v vs =>
       obtain ⟨h1, h2⟩ := ht
       cases vs with
       | nil => exact h2.elim
       | cons u vs =>
         obtain ⟨h3, h4⟩ := h2
         cases vs with
         | nil => exact ⟨v, by rw [show u = _ from h3], h1⟩
         | cons _ _ => exact h4.elim
   obtain ⟨ps, a, len, cap, rfl, rfl, hlc, ⟨hlen, hR⟩, hF, _⟩ := hv.now
   by_cases h0 : len = 0
   · subst h0
     have hps : ps = [] := List.length_eq_zero_iff.1 hlen
     subst hps
     refine Calls.mono (Any.strings_Join_none lays156 extra156 a cap sep w) ?_
     rintro e w' ⟨rfl, rfl⟩
     exact ⟨_, rfl, .refl _ _, rfl⟩
   · obtain ⟨b, o, rfl, hr⟩ := hR h0
     have hat : ∀ (j : Nat) (x : ByteArray), (ps.map Cel.x)[j]? = some x → w.cell? ⟨b, o + j, none⟩ = some (.string x) := fun j x hj => by
       rw [List.getElem?_map] at hj
       obtain ⟨p, hp, rfl⟩ := Option.map_eq_some_iff.1 hj
       have h1 := hr j p hp
       have h2 : p.cs = [.string p.x] := hF p (List.mem_of_getElem? hp)
       rw [h2] at h1
       have h3 := h1 0 _ rfl
       rw [show o + Pz.stE.sz * j + 0 = o + j by show o + 1 * j + 0 = _; omega] at h3
       exact h3
     have hbk : b < w.heap.size := by
       cases ps with
       | nil => simp at hlen; omega
       | cons p ps =>
         have h9 := hat 0 p.x rfl
         unfold World.cell? at h9
         cases hb : w.heap[b]? with
         | none => simp [hb] at h9
         | some ob => exact ZQ hb
     have := Any.strings_Join lays156 extra156 b o cap (ps.map Cel.x) sep w hat hbk hn (by rw [List.length_map]; omega) hl
     rw [List.length_map, hlen] at this
     refine Calls.mono this ?_
     rintro e w' ⟨rfl, hb⟩
     exact ⟨_, rfl, .of_below hb, rfl⟩⟩
end Go.Proofs.YtbedigkncjbggaaGreatDoor
set_option maxRecDepth 20000
namespace Go.Proofs.YtbedigkncjbggaaGreatDoor
open Go Go.Vc
def okV (v : V3) : Bool := if v.k == 0 then (v.n == 0) && seq v.s ⟨#[]⟩ else if v.k == 1 then seq v.s ⟨#[]⟩ else if v.k == 2 then (v.n.fdiv 2 == 0) && seq v.s ⟨#[]⟩ else ((v.k == 3) && (v.n == 0)) && decide ((v.s.size : Int) ≤ 64)
abbrev qu1 : ByteArray := ⟨#[39]⟩
def showV (v : V3) : ByteArray := if !okV v then ⟨#[]⟩ else if v.k == 1 then ⟨(Lib.itoa v.n).toArray⟩ else if v.k == 2 then ⟨(Lib.toUpperA (Lib.formatBool (v.n == 1))).toArray⟩ else if v.k == 3 then (qu1 ++ ⟨(repL 39 [39, 39] v.s.data.toList).toArray⟩) ++ qu1 else ⟨#[78, 85, 76, 76]⟩
theorem ZjU {v : V3} (h : okV v = true) (h3 : (v.k == 3) = true) : v.s.size ≤ 64 := by
 have e : v.k = 3 := by simpa using h3
 unfold okV at h
 rw [e] at h
 simp at h
 omega
theorem ZhJ (b : Bool) : ∀ (j : Nat) (c : UInt8), (⟨(Lib.formatBool b).toArray⟩ : ByteArray).data.toList[j]? = some c → c.toNat < 128 := fun j c h => by
 have hm := List.mem_of_getElem? h
 have hall : ∀ b : Bool, ∀ c ∈ (⟨(Lib.formatBool b).toArray⟩ : ByteArray).data.toList, c.toNat < 128 := by decide +kernel
 exact hall b c hm
theorem Zk8 (b : Bool) : (⟨(Lib.formatBool b).toArray⟩ : ByteArray).size ≤ 140737488355328 := by
 have : ∀ b : Bool, (⟨(Lib.formatBool b).toArray⟩ : ByteArray).size ≤ 5 := by decide +kernel
 have := this b
 omega
theorem Zi6 (c : UInt8) (s : ByteArray) (h : s.size ≤ 64) {new : List UInt8} (hn : new.length ≤ 2) : (⟨(repL c new s.data.toList).toArray⟩ : ByteArray).size ≤ 128 := by
 have h1 := ZaP c hn s.data.toList
 rw [Z1q] at h1
 show (bl _).size ≤ 128
 rw [Z4b]
 omega
theorem ZfE (v : V3) : CallTy Tryz.prog ZfV [.is (.agg #[.int .i64 v.k, .int .i64 v.n, .string v.s])] (.is (.bool (okV v))) :=
 CallTy.of (fn := Tryz.f91) Tryz.func91 (n := 45) rfl rfl rfl (fun _ _ => by kernel_rfl) fun E W => by
 refine vQ ?_
 refine JO.box rfl rfl fun b1 => ?_
 refine Ja rfl ?_
 refine vP [1] ?_
 refine Jq (Z0 Z3N rfl) ?_
 refine Jq (Z1 Zt rfl rfl) ?_
 refine vS [1, 4] ?_
 apply yk
 refine vQ ?_
 refine Jq (ZM rfl rfl) ?_
 refine Ja rfl ?_
 refine vS [1, 4, 5] ?_
 refine yC rfl (fun ht5 => ?_) (fun ht5 => ?_)
 try simp only [yd, yf] at ht5
 repeat apply yQ
 refine J.reg0 hmx qK qK ?_
 refine yz (Z0 Z3D rfl) ?_
 refine yz (Z1 Z5Z rfl rfl) ?_
 refine yz (ZM rfl rfl) ?_
 refine yz (Z2 rfl) ?_
 refine yg rfl rfl rfl (fun hg => Z0 Z3O (.inl rfl)) ?_
 refine yg rfl rfl rfl (fun hg => Z1 Z9 (qR rfl) rfl) ?_
 refine yg rfl rfl rfl (fun hg => Z38 (qR rfl) (.inl rfl)) ?_
 refine yz (ZV rfl rfl rfl id) ?_
 refine yz (Z1s rfl) ?_
 apply yn
 refine FinS.nil0 ?_
 refine vS [2] ?_
 refine vR ?_
 exact JX.ret1is rfl rfl (by unfold okV; rw [if_pos ht5])
 try simp only [yd, yf] at ht5
 refine vQ ?_
 refine Jq (ZM rfl rfl) ?_
 refine Ja rfl ?_
 refine vS [1, 4, 15] ?_
 refine yC rfl (fun ht15 => ?_) (fun ht15 => ?_)
 try simp only [yd, yf] at ht15
 refine vQ ?_
 refine Jq (Z0 Z3O rfl) ?_
 refine Jq (Z1 Z9 rfl rfl) ?_
 refine Jq (Z38 rfl rfl) ?_
 refine Ja rfl ?_
 refine vS [2] ?_
 refine vR ?_
 exact JX.ret1is rfl rfl (by unfold okV; rw [if_neg (by rw [ht5]; simp), if_pos ht15])
 try simp only [yd, yf] at ht15
 refine vQ ?_
 refine Jq (ZM rfl rfl) ?_
 refine Ja rfl ?_
 refine vS [1, 20] ?_
 refine yC rfl (fun ht20 => ?_) (fun ht20 => ?_)
 try simp only [yd, yf] at ht20
 repeat apply yQ
 refine J.reg0 hmx qK qK ?_
 refine yz (Z0 Z3D rfl) ?_
 refine yz (Z1 Z5Z rfl rfl) ?_
 refine yz (Zkq rfl rfl rfl) ?_
 refine yz (ZM rfl rfl) ?_
 refine yz (Z2 rfl) ?_
 refine yg rfl rfl rfl (fun hg => Z0 Z3O (.inl rfl)) ?_
 refine yg rfl rfl rfl (fun hg => Z1 Z9 (qR rfl) rfl) ?_
 refine yg rfl rfl rfl (fun hg => Z38 (qR rfl) (.inl rfl)) ?_
 refine yz (ZV rfl rfl rfl id) ?_
 refine yz (Z1s rfl) ?_
 apply yn
 refine FinS.nil0 ?_
 refine vS [2] ?_
 refine vR ?_
 exact JX.ret1is rfl rfl (by unfold okV; rw [if_neg (by rw [ht5]; simp), if_neg (by rw [ht15]; simp), if_pos ht20]; rfl)
 try simp only [yd, yf] at ht20
 apply yK
 refine vN ?_
 refine J.reg0 hmx qK qK ?_
 refine yz (Z0 Z3N rfl) ?_
 refine yz (Z1 Zt rfl rfl) ?_
 refine yz (ZM rfl rfl) ?_
 refine yz (Z2 rfl) ?_
 refine yg rfl rfl rfl (fun hg => Z0 Z3D (.inl rfl)) ?_
 refine yg rfl rfl rfl (fun hg => Z1 Z5Z (qR rfl) rfl) ?_
 refine yg rfl rfl rfl (fun hg => ZM (qR rfl) (.inl rfl)) ?_
 refine yz (ZV rfl rfl rfl id) ?_
 refine yz (Z2 rfl) ?_
 refine yg rfl rfl rfl (fun hg => Z0 Z3O (.inl rfl)) ?_
 refine yg rfl rfl rfl (fun hg => Z1 Z9 (qR rfl) rfl) ?_
 refine yg rfl rfl rfl (fun hg => Z4d Zv (qR rfl)) ?_
 refine yg rfl rfl rfl (fun hg => Z44 (qR rfl) (.inl rfl)) ?_
 refine yz (ZV rfl rfl rfl id) ?_
 refine yz (Z1s rfl) ?_
 apply yn
 refine FinS.nil0 ?_
 refine vS [2] ?_
 refine vR ?_
 exact JX.ret1is rfl rfl (by unfold okV; rw [if_neg (by rw [ht5]; simp), if_neg (by rw [ht15]; simp), if_neg (by rw [ht20]; simp)])
theorem ZdB (v : V3) (h0 : -9223372036854775808 ≤ v.n) (h1 : v.n ≤ 9223372036854775807) : CallF Tryz.prog Ze5 [GF, TF] [.is (.agg #[.int .i64 v.k, .int .i64 v.n, .string v.s])] (.is (.string (showV v))) :=
CallF.of (fn := Tryz.f54) Tryz.func54 (n := 32) rfl rfl rfl (fun _ _ => by kernel_rfl) fun E W => by
 refine vQ ?_
 refine JO.box rfl rfl fun b1 => ?_
 refine Ja rfl ?_
 refine vS [1] ?_
 apply yk
 refine vQ ?_
 refine Jq (ZI (cs := [_, _, _]) Z4n rfl rfl rfl) ?_
 refine Jq (ZL rfl (ZfE v) qA) ?_
 refine Jq (Z6p rfl) ?_
 refine Ja rfl ?_
 refine vS [1, 3] ?_
 refine yC rfl (fun ht3 => ?_) (fun ht3 => ?_)
 try simp only [yd, yf] at ht3
 refine vQ ?_
 refine Ja rfl ?_
 refine vS [2] ?_
 refine vR ?_
 exact JX.ret1is rfl rfl (by unfold showV; rw [if_pos ht3])
 try simp only [yd, yf] at ht3
 refine vQ ?_
 refine Jq (Z0 Z3N rfl) ?_
 refine Jq (Z1 Zt rfl rfl) ?_
 refine Jq (ZM rfl rfl) ?_
 refine Ja rfl ?_
 refine vS [1, 7] ?_
 refine yC rfl (fun ht7 => ?_) (fun ht7 => ?_)
 try simp only [yd, yf] at ht7
 refine vQ ?_
 refine Jq (Z0 Z3D rfl) ?_
 refine Jq (Z1 Z5Z rfl rfl) ?_
 refine Jq (ZG rfl (Z9u v.n h0 h1) (by simp) qA) ?_
 refine Ja rfl ?_
 refine vS [2] ?_
 refine vR ?_
 exact JX.ret1is rfl rfl (by unfold showV; rw [if_neg (by rw [ht3]; simp), if_pos ht7])
 try simp only [yd, yf] at ht7
 refine vQ ?_
 refine Jq (Z0 Z3N rfl) ?_
 refine Jq (Z1 Zt rfl rfl) ?_
 refine Jq (ZM rfl rfl) ?_
 refine Ja rfl ?_
 refine vS [1, 14] ?_
 refine yC rfl (fun ht14 => ?_) (fun ht14 => ?_)
 try simp only [yd, yf] at ht14
 refine vQ ?_
 refine Jq (Z0 Z3D rfl) ?_
 refine Jq (Z1 Z5Z rfl rfl) ?_
 refine Jq (ZM rfl rfl) ?_
 refine Jq (ZL rfl (Z8X (v.n == 1)) qA) ?_
 refine Jq (ZL rfl (Z6K ⟨(Lib.formatBool (v.n == 1)).toArray⟩ (Zk8 _) (ZhJ _)) (.one rfl .nil)) ?_
 refine Ja rfl ?_
 refine vS [2] ?_
 refine vR ?_
 exact JX.ret1is rfl rfl (by unfold showV; rw [if_neg (by rw [ht3]; simp), if_neg (by rw [ht7]; simp), if_pos ht14])
 try simp only [yd, yf] at ht14
 refine vQ ?_
 refine Jq (Z0 Z3N rfl) ?_
 refine Jq (Z1 Zt rfl rfl) ?_
 refine Jq (ZM rfl rfl) ?_
 refine Ja rfl ?_
 refine vS [1, 23] ?_
 refine yC rfl (fun ht23 => ?_) (fun ht23 => ?_)
 try simp only [yd, yf] at ht23
 have h64 := ZjU (by simpa using ht3) ht23
 have hrs := Zi6 39 v.s h64 (new := [39, 39]) qD
 refine vQ ?_
 refine Jq (Z0 Z3O rfl) ?_
 refine Jq (Z1 Z9 rfl rfl) ?_
 refine Jq (ZG rfl (Z8Y v.s 39 ⟨#[39, 39]⟩ qM qD qD) (by simp) qA) ?_
 refine Jq (Z61 rfl rfl (by have : qu1.size = 1 := rfl; show qu1.size + (⟨(repL 39 [39, 39] v.s.data.toList).toArray⟩ : ByteArray).size ≤ 9223372036854775807; omega)) ?_
 refine Jq (Z61 rfl rfl (by have : qu1.size = 1 := rfl; show (qu1 ++ ⟨(repL 39 [39, 39] v.s.data.toList).toArray⟩).size + qu1.size ≤ 9223372036854775807; rw [ByteArray.size_append]; omega)) ?_
 refine Ja rfl ?_
 refine vS [2] ?_
 refine vR ?_
 exact JX.ret1is rfl rfl (by unfold showV; rw [if_neg (by rw [ht3]; simp), if_neg (by rw [ht7]; simp), if_neg (by rw [ht14]; simp), if_pos ht23])
 try simp only [yd, yf] at ht23
 apply yK
 refine vN ?_
 apply yN
 refine Ja rfl ?_
 refine vS [2] ?_
 refine vR ?_
 exact JX.ret1is rfl rfl (by unfold showV; rw [if_neg (by rw [ht3]; simp), if_neg (by rw [ht7]; simp), if_neg (by rw [ht14]; simp), if_neg (by rw [ht23]; simp)])
end Go.Proofs.YtbedigkncjbggaaGreatDoor
set_option maxRecDepth 20000
namespace Go.Proofs.YtbedigkncjbggaaGreatDoor
open Go Go.Vc
structure Sep (c : UInt8) : Prop where
 wd : wordB c = false
 dg : digB c = false
 lt : letB c = false
 nq : (c == 39) = false
 sg : ∀ b l, tryL (b :: c :: l) 2 = false
theorem Z9X {c : UInt8} (h1 : wordB c = false) (h2 : digB c = false) (h3 : letB c = false) (h4 : (c == 39) = false) (h5 : ∀ n : Nat, n < 256 → (!(tryL [UInt8.ofNat n, c] 2)) = true) : Sep c :=
 ⟨h1, h2, h3, h4, fun b l => by
  have := ZbB (p := fun b => !(tryL [b, c] 2)) h5 b
  have e : tryL (b :: c :: l) 2 = tryL [b, c] 2 := by unfold tryL; simp
  rw [e]
  simpa using this⟩
theorem Zd6 : Sep 41 := Z9X (by decide +kernel) (by decide +kernel) (by decide +kernel) (by decide +kernel) (by decide +kernel)
theorem Z6X : Sep 32 := Z9X (by decide +kernel) (by decide +kernel) (by decide +kernel) (by decide +kernel) (by decide +kernel)
section
variable {c : UInt8} (hc : Sep c)
theorem Z6Z {p : UInt8 → Bool} (h10 : p c = false) (k : List UInt8) : ∀ l : List UInt8, runN p (l ++ c :: k) = runN p l
 | [] => by
   show runN p (c :: k) = 0
   simp [runN, h10]
 | b :: l => by
   rw [List.cons_append, runN, runN, Z6Z h10 k l]
theorem Zh9 {p : UInt8 → Bool} (h10 : p c = false) (k : List UInt8) : ∀ l : List UInt8, headP p (l ++ c :: k) = headP p l
 | [] => h10
 | _ :: _ => rfl
include hc in
theorem Zib (l k : List UInt8) : numL (l ++ c :: k) = numL l := by
 have e : numE (l ++ c :: k) = numE l := by
  unfold numE
  rw [Z6Z hc.dg, ZaS, Zdc, Zh9 hc.lt]
 unfold numL
 rw [e, Z6Z hc.dg, ZaS]
include hc in
theorem Z9w (k : List UInt8) : ∀ (l acc : List UInt8), (textL l acc).1.2 = 0 → textL (l ++ c :: k) acc = textL l acc
 | [], acc, h => by cases h
 | [b], acc, h => by
   by_cases hq : (b == 39) = true
   · have : b = 39 := by simpa using hq
     subst this
     show textL (39 :: c :: k) acc = textL [39] acc
     have e : ∀ (d : UInt8) (l : List UInt8), (d == 39) = false → textL (39 :: d :: l) acc = (endT acc, 1) := fun d l hd => by rw [textL, if_pos (by rfl), if_pos (by simp [bne, hd])]
     rw [e c k hc.nq]
     rw [textL]; rfl
   · rw [Z4N b [] acc (by simpa using hq)] at h
     cases h
 | b :: d :: l, acc, h => by
   by_cases hq : (b == 39) = true
   · have : b = 39 := by simpa using hq
     subst this
     rw [List.cons_append, List.cons_append]
     by_cases hd : (d == 39) = true
     · have : d = 39 := by simpa using hd
       subst this
       have e : ∀ l : List UInt8, textL (39 :: 39 :: l) acc = ((textL l (acc ++ [39])).1, (textL l (acc ++ [39])).2 + 2) := fun l => by rw [textL]; rfl
       rw [e] at h
       rw [e, e, Z9w k l _ h]
     · have hd' : (d == 39) = false := by simpa using hd
       have e : ∀ (d : UInt8) (l : List UInt8), (d == 39) = false → textL (39 :: d :: l) acc = (endT acc, 1) := fun d l hd => by rw [textL, if_pos (by rfl), if_pos (by simp [bne, hd])]
       rw [e _ _ hd', e _ _ hd']
   · have hq' : (b == 39) = false := by simpa using hq
     rw [Z4N b _ acc hq'] at h
     have := Z9w k (d :: l) (acc ++ [b]) h
     rw [List.cons_append] at this
     rw [List.cons_append, List.cons_append, Z4N b _ acc hq', Z4N b _ acc hq', this]
include hc in
theorem Zhs (b : UInt8) (l k : List UInt8) : signL ((b :: l) ++ c :: k) = signL (b :: l) := by
 have e1 : tryL ((b :: l) ++ c :: k) 1 = tryL (b :: l) 1 := by
   unfold tryL
   simp
 have e2 : tryL ((b :: l) ++ c :: k) 2 = tryL (b :: l) 2 := by
   cases l with
   | nil =>
     rw [List.cons_append, List.nil_append, hc.sg]
     rfl
   | cons d l =>
     unfold tryL
     simp
 unfold signL
 rw [e1, e2]
 by_cases h2 : tryL (b :: l) 2 = true
 · rw [if_pos h2, if_pos h2]
   cases l with
   | nil => simp [tryL] at h2
   | cons d l => rfl
 rw [if_neg h2, if_neg h2]
 rfl
include hc in
theorem Zg3 {b : UInt8} {l k : List UInt8} (h : (stepL (b :: l)).1.2 = 0) : stepL ((b :: l) ++ c :: k) = stepL (b :: l) := by
 rw [List.cons_append]
 by_cases h1 : letB b = true
 · have e : ∀ l : List UInt8, stepL (b :: l) = (wordL ((b :: l).take (runN wordB (b :: l))), runN wordB (b :: l)) := fun l => by rw [stepL, if_pos h1]
   rw [e, e, ← List.cons_append, Z6Z hc.wd, ZaS]
 by_cases h2 : digB b = true
 · have e : ∀ l : List UInt8, stepL (b :: l) = (numL (b :: l), runN digB (b :: l)) := fun l => by rw [stepL, if_neg h1, if_pos h2]
   rw [e, e, ← List.cons_append, Z6Z hc.dg, Zib hc]
 by_cases h3 : (b == 39) = true
 · have e : ∀ l : List UInt8, stepL (b :: l) = ((textL l []).1, (textL l []).2 + 1) := fun l => by rw [stepL, if_neg h1, if_neg h2, if_pos h3]
   rw [e] at h
   rw [e, e, Z9w hc k l [] h]
 have e : ∀ l : List UInt8, stepL (b :: l) = signL (b :: l) := fun l => by rw [stepL, if_neg h1, if_neg h2, if_neg h3]
 rw [e, e, ← List.cons_append, Zhs hc]
theorem ZeJ (m : List UInt8) : ∀ l : List UInt8, runN isSp l = l.length → runN isSp (l ++ m) = l.length + runN isSp m
 | [], _ => by simp
 | b :: l, h => by
   unfold runN at h
   split at h
   · rename_i hb
     rw [List.cons_append, runN, if_pos hb, ZeJ m l (by simpa using h)]
     simp only [List.length_cons]
     omega
   · simp at h
theorem Zd4 (k : List UInt8) : ∀ l : List UInt8, runN isSp l ≠ l.length → runN isSp (l ++ c :: k) = runN isSp l
 | [], h => absurd rfl h
 | b :: l, h => by
   rw [List.cons_append, runN, runN]
   split
   · rename_i hb
     rw [Zd4 k l (fun e => h (by rw [runN, if_pos hb, e]; rfl))]
   · rfl
include hc in
theorem Zbt (k : List UInt8) : ∀ (n : Nat) (l : List UInt8), l.length ≤ n → (allA l).2 = 0 → allA (l ++ c :: k) = finA (allA l).1 (allA (c :: k))
 | n, l, hn, h => by
   by_cases hs : runN isSp l = l.length
   · have e1 : allA l = ([], 0) := by
       rw [← Z49, hs, List.drop_length]; rfl
     have e2 : allA (l ++ c :: k) = allA (c :: k) := by
       rw [← Z49 (l ++ c :: k), ZeJ (c :: k) l hs, ← Z49 (c :: k)]
       congr 1
       rw [List.drop_append, List.drop_eq_nil_of_le qM, List.nil_append]
       congr 1
       omega
     rw [e1, e2, ZdV]
   · have hle := Z68 isSp l
     have e0 : allA (l ++ c :: k) = allA (l.drop (runN isSp l) ++ c :: k) := by
       rw [← Z49 (l ++ c :: k), Zd4 k l hs, Zdc]
     have e1 := Z49 l
     have hsp := Zf8 l
     have hlen : (l.drop (runN isSp l)).length ≤ n := by rw [List.length_drop]; omega
     rw [e0, ← e1]
     rw [← e1] at h
     cases hd : l.drop (runN isSp l) with
     | nil =>
       have := congrArg List.length hd
       rw [List.length_drop] at this
       simp at this
       omega
     | cons b r =>
       rw [hd] at h hsp hlen
       rw [Z5x hsp (by simp)] at h ⊢
       by_cases he : (stepL (b :: r)).1.2 = 0
       · have hne : ((stepL (b :: r)).1.2 != 0) = false := by simp [he]
         rw [hne] at h ⊢
         simp only [Bool.false_eq_true, if_false] at h ⊢
         have hp := Z8P he
         have hl2 := Zaf (b :: r)
         have hr : (allA ((b :: r).drop (stepL (b :: r)).2)).2 = 0 := by
           unfold finA at h
           by_cases h9 : ((allA ((b :: r).drop (stepL (b :: r)).2)).2 != 0) = true
           · rw [if_pos h9] at h; exact h
           · simpa using h9
         have hsp2 : runN isSp ((b :: r) ++ c :: k) = 0 := by
           have hb : ¬ isSp b = true := fun hb => by rw [runN, if_pos hb] at hsp; omega
           rw [List.cons_append, runN, if_neg hb]
         rw [Z5x hsp2 (by simp), Zg3 hc he, hne]
         simp only [Bool.false_eq_true, if_false]
         rw [List.drop_append_of_le_length hl2]
         match n, hlen with
         | 0, hlen => simp at hlen
         | n + 1, hlen =>
           rw [Zbt k n _ (by rw [List.length_drop]; omega) hr, Zeg]
           have : finA [(stepL (b :: r)).1.1] (allA ((b :: r).drop (stepL (b :: r)).2)) = ([(stepL (b :: r)).1.1] ++ (allA ((b :: r).drop (stepL (b :: r)).2)).1, 0) := by
             unfold finA
             rw [if_neg (by simp [hr])]
           rw [this]
       · rw [if_pos (by simpa using he)] at h
         exact absurd h he
end
end Go.Proofs.YtbedigkncjbggaaGreatDoor
set_option maxRecDepth 20000
namespace Go.Proofs.YtbedigkncjbggaaGreatDoor
open Go Go.Vc Go.Pz
abbrev prS (l : List UInt8) : St × Int := readS (lexL l)
theorem Zft {l : List UInt8} (h : (lexL l).2 ≠ 0) : prS l = (st0, (lexL l).2) := by
 show readS _ = _
 unfold readS; rw [if_neg (by simpa using h)]
theorem ZdI {l : List UInt8} (h : (lexL l).2 = 0) : prS l = readT (lexL l).1 := by
 show readS _ = _
 unfold readS; rw [if_pos (by simpa using h)]
theorem Zdf {ts : List T3} (h : (readT ts).2 = 0) : ∃ s r, stmtP (exprP (ts.length + 1)) ts = some (s, r) ∧ skT 5 Z8r r = [] ∧ deepS s = false ∧ readT ts = (s, 0) := by
 unfold readT at h ⊢
 split at h
 · cases h
 rename_i s hs
 split at h
 · cases h
 rename_i hd
 unfold wholeP at hs
 obtain ⟨z, h1, h2⟩ := bnd hs
 split at h2
 · rename_i h3; injection h2 with h2; subst h2
   exact ⟨z.1, z.2, h1, h3, by simpa using hd, by rw [if_neg hd]⟩
 · cases h2
instance : DecidableEq T3 := fun a b => decidable_of_iff (a.k = b.k ∧ a.t = b.t ∧ a.n = b.n) ⟨fun ⟨h1, h2, h3⟩ => by cases a; cases b; simp_all, fun h => by subst h; exact ⟨rfl, rfl, rfl⟩⟩
theorem Zh8 {l : List UInt8} (h : (prS l).2 = 0) : (lexL l).2 = 0 := by
 by_cases e : (lexL l).2 = 0
 · exact e
 · rw [Zft e] at h; exact absurd h e
end Go.Proofs.YtbedigkncjbggaaGreatDoor
set_option maxRecDepth 20000
namespace Go.Proofs.YtbedigkncjbggaaGreatDoor
open Go Go.Vc Go.Pz
abbrev tx (s : ByteArray) : List UInt8 := s.data.toList
def litS (vk vn : Int) (vs : ByteArray) : List UInt8 := (showV ⟨vk, vn, vs⟩).data.toList
def opS (k : Int) : List UInt8 := tx (binT k).t
def parS (x : Ex) (l : List UInt8) : List UInt8 := if big x then 40 :: (l ++ [41]) else l
mutual
def prE : Ex → List UInt8
 | .mk k vk vn vs tb nm _ kids =>
   if k == 1 then litS vk vn vs
   else if k == 2 then (if sq tb em then tx nm else tx tb ++ 46 :: tx nm)
   else if k == 3 then 45 :: hd0 (prEs kids)
   else if k == 4 then [78, 79, 84] ++ 32 :: hd0 (prEs kids)
   else if k == 18 then hd0 (prEs kids) ++ [32, 73, 83, 32, 78, 85, 76, 76]
   else if k == 19 then hd0 (prEs kids) ++ [32, 73, 83, 32, 78, 79, 84, 32, 78, 85, 76, 76]
   else if decide (20 ≤ k) && decide (k ≤ 23) then tx (aggW k) ++ 40 :: ((match prEs kids with | [] => [42] | y :: _ => y.1) ++ [41])
   else if decide (k < 5) || decide (17 < k) then [63]
   else hd0 (prEs kids) ++ 32 :: (opS k ++ 32 :: hd1 (prEs kids))
def prEs : List Ex → List (List UInt8 × List UInt8)
 | [] => []
 | x :: xs => (prE x, parS x (prE x)) :: prEs xs
end
def prO (x : Ex) : List UInt8 := parS x (prE x)
theorem ZgV : Sep 44 := Z9X (by decide +kernel) (by decide +kernel) (by decide +kernel) (by decide +kernel) (by decide +kernel)
theorem Zkp : Sep 40 := Z9X (by decide +kernel) (by decide +kernel) (by decide +kernel) (by decide +kernel) (by decide +kernel)
theorem ZjD : Sep 46 := Z9X (by decide +kernel) (by decide +kernel) (by decide +kernel) (by decide +kernel) (by decide +kernel)
theorem Z37 {c : UInt8} (hc : Sep c) {l k : List UInt8} {t1 t2 : List T3} (h1 : allA l = (t1, 0)) (h2 : allA (c :: k) = (t2, 0)) : allA (l ++ c :: k) = (t1 ++ t2, 0) := by
 rw [Zbt hc k l.length l (Nat.le_refl _) (by rw [h1]), h1, h2]; rfl
theorem Z6W (k : List UInt8) : allA (32 :: k) = allA k := by
 rw [← Z49 (32 :: k), ← Z49 k]
 have : runN isSp (32 :: k) = runN isSp k + 1 := by rw [runN, if_pos (by decide +kernel)]
 rw [this, List.drop_succ_cons]
structure One (c : UInt8) : Prop where
 st : ∀ m, stepL (c :: m) = ((sg ⟨#[c]⟩, 0), 1)
 sp : isSp c = false
theorem Z9B {c : UInt8} (h : (!(letB c) && (!(digB c) && (!(c == 39) && (!(isSp c) && tryL [c] 1)))) = true) (h2 : ∀ n : Nat, n < 256 → (!(tryL [c, UInt8.ofNat n] 2)) = true) : One c := by
 simp only [Bool.and_eq_true, Bool.not_eq_true'] at h
 obtain ⟨h1, h3, h4, h5, h6⟩ := h
 refine ⟨fun m => ?_, h5⟩
 have ht : tryL (c :: m) 2 = false := by
   cases m with
   | nil => unfold tryL; simp
   | cons d r =>
     have := ZbB (p := fun d => !(tryL [c, d] 2)) h2 d
     have e : tryL (c :: d :: r) 2 = tryL [c, d] 2 := by unfold tryL; simp
     rw [e]; simpa using this
 have h7 : tryL (c :: m) 1 = true := by
   have e : tryL (c :: m) 1 = tryL [c] 1 := by unfold tryL; simp
   rw [e]; exact h6
 rw [stepL, if_neg (by rw [h1]; simp), if_neg (by rw [h3]; simp), if_neg (by rw [h4]; simp)]
 unfold signL
 rw [if_neg (by rw [ht]; simp), if_pos h7]
 rfl
theorem Zdq : One 40 := Z9B (by decide +kernel) (by decide +kernel)
theorem Zde : One 41 := Z9B (by decide +kernel) (by decide +kernel)
theorem Zgc : One 44 := Z9B (by decide +kernel) (by decide +kernel)
theorem Zhw : One 45 := Z9B (by decide +kernel) (by decide +kernel)
theorem Zjh : One 46 := Z9B (by decide +kernel) (by decide +kernel)
theorem Z4D {c : UInt8} (h : One c) {k : List UInt8} {t : List T3} (hk : allA k = (t, 0)) : allA (c :: k) = (sg ⟨#[c]⟩ :: t, 0) := by
 rw [Z5x (by rw [runN, if_neg (by rw [h.sp]; simp)]) (by simp), h.st, if_neg (by simp)]
 show finA [sg ⟨#[c]⟩] (allA k) = _
 rw [hk]; rfl
theorem Zak {x : T3} (h : rt x) : allA (showT x) = ([x], 0) := by
 have := ZcF [x] (fun y hy => by rw [List.mem_singleton] at hy; subst hy; exact h)
 rw [← this]
 show _ = allA (32 :: (showT x ++ []))
 rw [Z6W, List.append_nil]
def nmOk (s : ByteArray) : Prop := rt ⟨2, s, 0⟩ ∧ s.size ≤ 2048
theorem ZbC (s : ByteArray) (h : nmOk s) : sq s em = false := by
 obtain ⟨⟨b, t, h1, _⟩, _⟩ := h
 have h2 : s.data.toList = b :: t := h1
 unfold sq
 rw [h2]; rfl
theorem Z3t {s : ByteArray} (h : nmOk s) : allA (tx s) = ([nm_ s], 0) := Zak h.1
theorem Zj7 {s : ByteArray} (h : s.size ≤ 64) : rt ⟨4, s, 0⟩ := by
 have hs : showT ⟨4, s, 0⟩ = 39 :: (dblQ s.data.toList ++ [39]) := rfl
 refine ⟨39, _, hs, by rfl, fun t ht => ?_⟩
 rw [hs]
 have h3 := Z8I ht s.data.toList []
 have e3 : (39 :: (dblQ s.data.toList ++ [39])) ++ t = 39 :: (dblQ s.data.toList ++ 39 :: t) := by simp
 have e2 : endT s.data.toList = (⟨4, s, 0⟩, 0) := by
   unfold endT
   rw [if_neg (by rw [decide_eq_false (by rw [Z1q]; omega)]; simp)]
 rw [e3, stepL, if_neg (by decide +kernel), if_neg (by decide +kernel), if_pos (show ((39 : UInt8) == 39) = true by decide), h3, List.nil_append, e2]
 simp
theorem ZeP {n : Int} : litS 1 n em = showT ⟨3, em, n⟩ := by
 have h : okV ⟨1, n, ⟨#[]⟩⟩ = true := by unfold okV; rw [if_neg (by show ¬ ((1 : Int) == 0) = true; decide), if_pos (by show ((1 : Int) == 1) = true; decide)]; exact (by simp [seq] : seq ⟨#[]⟩ ⟨#[]⟩ = true)
 unfold litS showV showT
 rw [h, if_neg qD, if_pos (by show ((1 : Int) == 1) = true; decide), if_pos (by show ((3 : Int) == 3) = true; decide)]
theorem Zfj {s : ByteArray} (h : s.size ≤ 64) : litS 3 0 s = showT ⟨4, s, 0⟩ := by
 have h9 : okV ⟨3, 0, s⟩ = true := by
  unfold okV
  rw [if_neg (by show ¬ ((3 : Int) == 0) = true; decide), if_neg (by show ¬ ((3 : Int) == 1) = true; decide), if_neg (by show ¬ ((3 : Int) == 2) = true; decide)]
  show ((((3 : Int) == 3) && ((0 : Int) == 0)) && decide ((s.size : Int) ≤ 64)) = true
  rw [decide_eq_true qM]
  rfl
 unfold litS showV showT
 rw [h9, if_neg qD, if_neg (by show ¬ ((3 : Int) == 1) = true; decide), if_neg (by show ¬ ((3 : Int) == 2) = true; decide), if_pos (by show ((3 : Int) == 3) = true; decide), if_neg (by show ¬ ((4 : Int) == 3) = true; decide), if_pos (by show ((4 : Int) == 4) = true; decide)]
 show ((qu1 ++ bl _) ++ qu1).data.toList = _
 rw [Z95, Z95, Z4c]
 rfl
theorem Zf2 : litS 2 1 em = tx Z8A := by decide +kernel
theorem ZeH : litS 2 0 em = tx Z6U := by decide +kernel
theorem Zfk : litS 0 0 em = tx Z1D := by decide +kernel
theorem Zao {x : Ex} (h : allA (prE x) = (tkE x, 0)) : allA (prO x) = (tkO x, 0) := by
 unfold prO tkO parS parT
 split
 · refine Z4D Zdq ?_
   exact Z37 Zd6 h (Z4D Zde Z8Q)
 · exact h
theorem ZjK : allA [32, 73, 83, 32, 78, 85, 76, 76] = ([kw w_IS, kw Z1D], 0) := by decide +kernel
theorem Zjd : allA [32, 73, 83, 32, 78, 79, 84, 32, 78, 85, 76, 76] = ([kw w_IS, kw ZY, kw Z1D], 0) := by decide +kernel
theorem ZiJ : allA [78, 79, 84] = ([kw ZY], 0) := by decide +kernel
theorem Zkk {q : Int} (h5 : 5 ≤ q) (h17 : q ≤ 17) : allA (opS q) = ([binT q], 0) := by
 have : q = 5 ∨ q = 6 ∨ q = 7 ∨ q = 8 ∨ q = 9 ∨ q = 10 ∨ q = 11 ∨ q = 12 ∨ q = 13 ∨ q = 14 ∨ q = 15 ∨ q = 16 ∨ q = 17 := by omega
 rcases this with rfl|rfl|rfl|rfl|rfl|rfl|rfl|rfl|rfl|rfl|rfl|rfl|rfl <;> decide +kernel
theorem Zjw {q : Int} (h0 : 20 ≤ q) (h1 : q ≤ 23) : allA (tx (aggW q)) = ([kw (aggW q)], 0) := by
 have : q = 20 ∨ q = 21 ∨ q = 22 ∨ q = 23 := by omega
 rcases this with rfl|rfl|rfl|rfl <;> decide +kernel
theorem Zfu {q : Int} {x y : Ex} (h5 : 5 ≤ q) (h17 : q ≤ 17) : prE (nd q [x, y]) = prO x ++ 32 :: (opS q ++ 32 :: prO y) := by
 unfold prE
 simp only [prEs]
 rw [if_neg (by simp; omega), if_neg (by simp; omega), if_neg (by simp; omega), if_neg (by simp; omega), if_neg (by simp; omega), if_neg (by simp; omega), if_neg (by simp; omega), if_neg (by simp; omega)]
 rfl
theorem Zj9 {q : Int} {x y : Ex} (h5 : 5 ≤ q) (h17 : q ≤ 17) : tkE (nd q [x, y]) = tkO x ++ binT q :: tkO y := by
 unfold tkE
 simp only [tkEs]
 rw [if_neg (by simp; omega), if_neg (by simp; omega), if_neg (by simp; omega), if_neg (by simp; omega), if_neg (by simp; omega), if_neg (by simp; omega), if_neg (by simp; omega)]
 rfl
theorem Zfn {q : Int} {x : Ex} (h0 : 20 ≤ q) (h1 : q ≤ 23) : prE (nd q [x]) = tx (aggW q) ++ 40 :: (prE x ++ [41]) := by
 conv => lhs; unfold prE
 simp only [prEs]
 rw [if_neg (by simp; omega), if_neg (by simp; omega), if_neg (by simp; omega), if_neg (by simp; omega), if_neg (by simp; omega), if_neg (by simp; omega), if_pos (by simp; omega)]
theorem Zj3 {q : Int} {x : Ex} (h0 : 20 ≤ q) (h1 : q ≤ 23) : tkE (nd q [x]) = kw (aggW q) :: sg s_lp :: (tkE x ++ [sg s_rp]) := by
 conv => lhs; unfold tkE
 simp only [tkEs]
 rw [if_neg (by simp; omega), if_neg (by simp; omega), if_neg (by simp; omega), if_neg (by simp; omega), if_neg (by simp; omega), if_neg (by simp; omega), if_pos (by simp; omega)]
theorem ZcY {x : Ex} (h : Wf nmOk x) : allA (prE x) = (tkE x, 0) := by
 induction h with
 | num h0 h1 => exact (congrArg allA ZeP).trans (Zak (Zd0 h0 h1))
 | txt h => exact (congrArg allA (Zfj h)).trans (Zak (Zj7 h))
 | tru => exact (congrArg allA Zf2).trans (by decide +kernel)
 | fls => exact (congrArg allA ZeH).trans (by decide +kernel)
 | nul => exact (congrArg allA Zfk).trans (by decide +kernel)
 | col h => exact Z3t h
 | @tcol t s ht h =>
   have e : prE (.mk 2 0 0 em t s 0 []) = tx t ++ 46 :: tx s := by
     show (if sq t em = true then _ else _) = _
     rw [if_neg (by rw [ZbC t ht]; simp)]
   have e2 : tkE (.mk 2 0 0 em t s 0 []) = [nm_ t, sg Z2T, nm_ s] := by
     show (if sq t em = true then _ else _) = _
     rw [if_neg (by rw [ZbC t ht]; simp)]
   rw [e, e2]
   exact Z37 ZjD (Z3t ht) (Z4D Zjh (Z3t h))
 | @neg x h ih => exact Z4D Zhw (Zao ih)
 | @not x h ih => exact Z37 Z6X ZiJ ((Z6W _).trans (Zao ih))
 | @isn x h ih => exact Z37 Z6X (Zao ih) ZjK
 | @iss x h ih => exact Z37 Z6X (Zao ih) Zjd
 | @bin q x y h5 h17 hx hy ihx ihy =>
   rw [Zfu h5 h17, Zj9 h5 h17]
   exact Z37 Z6X (Zao ihx) ((Z6W _).trans (Z37 Z6X (Zkk h5 h17) ((Z6W _).trans (Zao ihy))))
 | cnt => decide +kernel
 | @agg q x h0 h1 hx ih =>
   rw [Zfn h0 h1, Zj3 h0 h1]
   exact Z37 Zkp (Zjw h0 h1) (Z4D Zdq (Z37 Zd6 ih (Z4D Zde Z8Q)))
end Go.Proofs.YtbedigkncjbggaaGreatDoor
set_option maxRecDepth 20000
namespace Go.Proofs.YtbedigkncjbggaaGreatDoor
open Go Go.Vc Go.Pz
abbrev kCT : List UInt8 := [67, 82, 69, 65, 84, 69, 32, 84, 65, 66, 76, 69]
abbrev kCI : List UInt8 := [67, 82, 69, 65, 84, 69, 32, 73, 78, 68, 69, 88]
abbrev kON : List UInt8 := [79, 78]
abbrev kUH : List UInt8 := [85, 83, 73, 78, 71, 32, 72, 65, 83, 72]
abbrev kII : List UInt8 := [73, 78, 83, 69, 82, 84, 32, 73, 78, 84, 79]
abbrev kVA : List UInt8 := [86, 65, 76, 85, 69, 83]
abbrev kSE : List UInt8 := [83, 69, 76, 69, 67, 84]
abbrev kFR : List UInt8 := [70, 82, 79, 77]
abbrev kWH : List UInt8 := [87, 72, 69, 82, 69]
abbrev kGB : List UInt8 := [71, 82, 79, 85, 80, 32, 66, 89]
abbrev kOB : List UInt8 := [79, 82, 68, 69, 82, 32, 66, 89]
abbrev kLI : List UInt8 := [76, 73, 77, 73, 84]
abbrev kUP : List UInt8 := [85, 80, 68, 65, 84, 69]
abbrev kST : List UInt8 := [83, 69, 84]
abbrev kDF : List UInt8 := [68, 69, 76, 69, 84, 69, 32, 70, 82, 79, 77]
abbrev kBE : List UInt8 := [66, 69, 71, 73, 78]
abbrev kCO : List UInt8 := [67, 79, 77, 77, 73, 84]
abbrev kRO : List UInt8 := [82, 79, 76, 76, 66, 65, 67, 75]
abbrev kAS : List UInt8 := [65, 83]
abbrev kJO : List UInt8 := [74, 79, 73, 78]
abbrev kDE : List UInt8 := [68, 69, 83, 67]
abbrev kNN : List UInt8 := [78, 79, 84, 32, 78, 85, 76, 76]
abbrev kUN : List UInt8 := [85, 78, 73, 81, 85, 69]
abbrev kEQ : List UInt8 := [61]
theorem ZjX : allA kCT = ([kw Z3V, kw Z6e], 0) := by decide +kernel
theorem ZiX : allA kCI = ([kw Z3V, kw Za8], 0) := by decide +kernel
theorem Zfo : allA kON = ([kw w_ON], 0) := by decide +kernel
theorem Zj5 : allA kUH = ([kw Z5u, kw Z9V], 0) := by decide +kernel
theorem Zk6 : allA kII = ([kw Z5g, kw Z9T], 0) := by decide +kernel
theorem Zja : allA kVA = ([kw Z3A], 0) := by decide +kernel
theorem Zk7 : allA kSE = ([kw Z53], 0) := by decide +kernel
theorem ZjN : allA kFR = ([kw Z4z], 0) := by decide +kernel
theorem Zk9 : allA kWH = ([kw Z3E], 0) := by decide +kernel
theorem Zj4 : allA kGB = ([kw Z39, kw w_BY], 0) := by decide +kernel
theorem ZiR : allA kOB = ([kw Z2f, kw w_BY], 0) := by decide +kernel
theorem Zk3 : allA kLI = ([kw Z1L], 0) := by decide +kernel
theorem ZiQ : allA kUP = ([kw Z5f], 0) := by decide +kernel
theorem Zjr : allA kST = ([kw Zbf], 0) := by decide +kernel
theorem ZiP : allA kDF = ([kw Z5a, kw Z4z], 0) := by decide +kernel
theorem ZiZ : allA kAS = ([kw w_AS], 0) := by decide +kernel
theorem Zjk : allA kJO = ([kw Z3K], 0) := by decide +kernel
theorem ZjY : allA kDE = ([kw Z4C], 0) := by decide +kernel
theorem Zj0 : allA kNN = ([kw ZY, kw Z1D], 0) := by decide +kernel
theorem Zjo : allA kUN = ([kw Z20], 0) := by decide +kernel
theorem ZjE : allA kEQ = ([sg s_eq], 0) := by decide +kernel
def joinC : List (List UInt8) → List UInt8
 | [] => []
 | x :: xs => x ++ xs.flatMap fun y => 44 :: 32 :: y
theorem Zcw {α : Type} {p : α → List UInt8} {tk : α → List T3} : ∀ (xs : List α) (a : List UInt8) (ta : List T3), (∀ x ∈ xs, allA (p x) = (tk x, 0)) → allA a = (ta, 0) → allA (a ++ (xs.map p).flatMap fun y => 44 :: 32 :: y) = (ta ++ xs.flatMap (fun y => sg ZC :: tk y), 0)
 | [], a, ta, _, ha => by simpa using ha
 | x :: xs, a, ta, h, ha => by
   have ih := Zcw xs (p x) (tk x) (fun y hy => h y (List.mem_cons_of_mem _ hy)) (h x List.mem_cons_self)
   rw [List.map_cons, List.flatMap_cons, List.flatMap_cons]
   show allA (a ++ 44 :: (32 :: (p x ++ (xs.map p).flatMap fun y => 44 :: 32 :: y))) = _
   exact Z37 ZgV ha (Z4D Zgc ((Z6W _).trans ih))
theorem Z57 {α : Type} {p : α → List UInt8} {tk : α → List T3} (l : List α) (h : ∀ x ∈ l, allA (p x) = (tk x, 0)) : allA (joinC (l.map p)) = (sepK tk l, 0) := by
 cases l with
 | nil => rfl
 | cons x xs => exact Zcw xs (p x) (tk x) (fun y hy => h y (List.mem_cons_of_mem _ hy)) (h x List.mem_cons_self)
def Tl_ (c : List UInt8) (ts : List T3) : Prop := (c = [] ∧ ts = []) ∨ ∃ k, c = 32 :: k ∧ allA k = (ts, 0)
theorem Z4x : Tl_ [] [] := .inl ⟨rfl, rfl⟩
theorem Z4f {k : List UInt8} {ts : List T3} (h : allA k = (ts, 0)) : Tl_ (32 :: k) ts := .inr ⟨k, rfl, h⟩
theorem Z4r {a c : List UInt8} {ta tc : List T3} (ha : allA a = (ta, 0)) (hc : Tl_ c tc) : allA (a ++ c) = (ta ++ tc, 0) := by
 rcases hc with ⟨rfl, rfl⟩ | ⟨k, rfl, hk⟩
 · simpa using ha
 · exact Z37 Z6X ha ((Z6W k).trans hk)
theorem Tl_.app {c d : List UInt8} {tc td : List T3} (hc : Tl_ c tc) (hd : Tl_ d td) : Tl_ (c ++ d) (tc ++ td) := by
 rcases hc with ⟨rfl, rfl⟩ | ⟨k, rfl, hk⟩
 · exact hd
 · exact .inr ⟨k ++ d, rfl, Z4r hk hd⟩
theorem cut2 {a b : List UInt8} {ta tb : List T3} (ha : allA a = (ta, 0)) (hb : allA b = (tb, 0)) : allA (a ++ 32 :: b) = (ta ++ tb, 0) := Z37 Z6X ha ((Z6W b).trans hb)
theorem Zag {a : List UInt8} {ta : List T3} (ha : allA a = (ta, 0)) : allA (40 :: (a ++ [41])) = (sg s_lp :: (ta ++ [sg s_rp]), 0) := Z4D Zdq (Z37 Zd6 ha (Z4D Zde Z8Q))
def txTy (t : Int) : List UInt8 := if decide (1 ≤ t) && decide (t ≤ 3) then 32 :: tx (typW t) else []
def txC (c : Col) : List UInt8 := tx c.nm ++ (txTy c.ty ++ ((if c.nn then 32 :: kNN else []) ++ (if c.un then 32 :: kUN else [])))
def txSrc (s : Pz.Src) : List UInt8 := tx s.tb ++ if sq s.nm s.tb then [] else 32 :: (kAS ++ 32 :: tx s.nm)
def txCl (w : List UInt8) (l : List Ex) : List UInt8 := if l.isEmpty then [] else 32 :: (w ++ 32 :: joinC (l.map prE))
def txJ (s : Pz.Src) : List UInt8 := 32 :: (kJO ++ 32 :: (txSrc s ++ txCl kON s.on))
def txFr : List Pz.Src → List UInt8
 | [] => []
 | s :: js => (txSrc s ++ txCl kON s.on) ++ js.flatMap txJ
def txItm (i : Itm) : List UInt8 := if i.all then [42] else prE i.ex
def txKy (k : Ky) : List UInt8 := prE k.ex ++ if k.desc then 32 :: kDE else []
def txR (r : List Ex) : List UInt8 := 40 :: (joinC (r.map prE) ++ [41])
def txSet (p : ByteArray × Ex) : List UInt8 := tx p.1 ++ 32 :: (kEQ ++ 32 :: prE p.2)
def txOr (l : List Ky) : List UInt8 := if l.isEmpty then [] else 32 :: (kOB ++ 32 :: joinC (l.map txKy))
def txLim (n : Int) : List UInt8 := if decide (0 ≤ n) then 32 :: (kLI ++ 32 :: Lib.itoa n) else []
def txNs (l : List ByteArray) : List UInt8 := if l.isEmpty then [] else 32 :: 40 :: (joinC (l.map tx) ++ [41])
def txQ (s : St) : List UInt8 := kSE ++ 32 :: (joinC (s.items.map txItm) ++ 32 :: (kFR ++ 32 :: (txFr s.from_ ++ (txCl kWH s.where_ ++ (txCl kGB s.group ++ (txOr s.order ++ txLim s.limit))))))
def txI (s : St) : List UInt8 := kII ++ 32 :: (tx s.tb ++ (txNs s.names ++ 32 :: (kVA ++ 32 :: joinC (s.rows.map txR))))
def txS (s : St) : List UInt8 :=
 if s.kind == 1 then kCT ++ 32 :: (tx s.tb ++ 32 :: 40 :: (joinC (s.cols.map txC) ++ [41]))
 else if s.kind == 2 then kCI ++ 32 :: (tx s.nm ++ 32 :: (kON ++ 32 :: (tx s.tb ++ 32 :: ((40 :: (joinC (s.names.map tx) ++ [41])) ++ if s.hash then 32 :: kUH else []))))
 else if s.kind == 3 then txI s
 else if s.kind == 4 then txQ s
 else if s.kind == 5 then kUP ++ 32 :: (tx s.tb ++ 32 :: (kST ++ 32 :: (joinC ((s.names.zip s.sets).map txSet) ++ txCl kWH s.where_)))
 else if s.kind == 6 then kDF ++ 32 :: (tx s.tb ++ txCl kWH s.where_)
 else if s.kind == 7 then kBE else if s.kind == 8 then kCO else kRO
theorem ZiK {t : Int} (h1 : 1 ≤ t) (h3 : t ≤ 3) : allA (tx (typW t)) = ([kw (typW t)], 0) := by
 have : t = 1 ∨ t = 2 ∨ t = 3 := by omega
 rcases this with rfl|rfl|rfl <;> decide +kernel
theorem Zld {c : Col} (h : wfCol nmOk c) : allA (txC c) = (tkC c, 0) := by
 obtain ⟨n, t, nn, un⟩ := c
 obtain ⟨h0, h1, h3⟩ := h
 have e : txTy t = 32 :: tx (typW t) := by unfold txTy; rw [if_pos (by simp only [Bool.and_eq_true, decide_eq_true_eq]; exact ⟨h1, h3⟩)]
 unfold txC tkC
 dsimp only
 rw [e]
 refine Z4r (ta := [nm_ n]) (Z3t h0) (Tl_.app (tc := [kw (typW t)]) (Z4f (ZiK h1 h3)) (Tl_.app ?_ ?_))
 · cases nn with
   | true => exact Z4f Zj0
   | false => exact Z4x
 · cases un with
   | true => exact Z4f Zjo
   | false => exact Z4x
theorem Zf7 {s : Pz.Src} (h : wfSrc nmOk s) : allA (txSrc s) = (tkSrc s, 0) := by
 unfold txSrc tkSrc
 refine Z4r (ta := [nm_ s.tb]) (tc := if sq s.nm s.tb then [] else [kw w_AS, nm_ s.nm]) (Z3t h.1) ?_
 cases sq s.nm s.tb with
 | true => exact Z4x
 | false => exact Z4f (cut2 ZiZ (Z3t h.2))
theorem Zbk {l : List Ex} (h : ∀ x ∈ l, Wf nmOk x) : allA (joinC (l.map prE)) = (sepK tkE l, 0) := Z57 l fun x hx => ZcY (h x hx)
theorem ZfK {l : List Ex} (h : wfWh nmOk l) : Tl_ (txCl kWH l) (tkWh l) := by
 rcases h with rfl | ⟨x, rfl, hx⟩
 · exact Z4x
 · have : allA (joinC ([x].map prE)) = (tkE x, 0) := by rw [Zbk (l := [x]) (fun y hy => by rw [List.mem_singleton.1 hy]; exact hx)]; simp [sepK]
   exact Z4f (cut2 Zk9 this)
theorem Z8c {α : Type} {m : Nat} {W : α → Prop} {l : List α} (h : wfL m W l) : l.isEmpty = false := by
 have := h.1
 cases l with
 | nil => simp at this
 | cons x l => rfl
theorem ZlG {l : List Ex} (h : l = [] ∨ wfL 16 (Wf nmOk) l) : Tl_ (txCl kGB l) (tkGr l) := by
 rcases h with rfl | h
 · exact Z4x
 · unfold txCl tkGr
   rw [if_neg (by rw [Z8c h]; simp), if_neg (by rw [Z8c h]; simp)]
   exact Z4f (cut2 Zj4 (Zbk h.2.2))
theorem ZkP {k : Ky} (h : wfKy nmOk k) : allA (txKy k) = (tkKy k, 0) := by
 unfold txKy tkKy
 refine Z4r (ZcY h) ?_
 split
 · exact Z4f ZjY
 · exact Z4x
theorem ZlA {l : List Ky} (h : l = [] ∨ wfL 16 (wfKy nmOk) l) : Tl_ (txOr l) (tkOr l) := by
 rcases h with rfl | h
 · exact Z4x
 · unfold txOr tkOr
   rw [if_neg (by rw [Z8c h]; simp), if_neg (by rw [Z8c h]; simp)]
   exact Z4f (cut2 ZiR (Z57 (p := txKy) (tk := tkKy) l fun x hx => ZkP (h.2.2 x hx)))
theorem ZkK {n : Int} (h : n = -1 ∨ (0 ≤ n ∧ n ≤ 9223372036854775807)) : Tl_ (txLim n) (tkLim n) := by
 rcases h with rfl | ⟨h0, h1⟩
 · exact Z4x
 · unfold txLim tkLim
   rw [if_pos (by simpa using h0), if_pos (by simpa using h0)]
   exact Z4f (cut2 Zk3 (Zak (Zd0 h0 h1)))
theorem Zka {i : Itm} (h : wfItm nmOk i) : allA (txItm i) = (tkItm i, 0) := by
 obtain ⟨a, x⟩ := i
 rcases h with ⟨h1, h2⟩ | ⟨h1, h2⟩
 · dsimp only at h1 h2; subst h1 h2; decide +kernel
 · dsimp only at h1 h2; subst h1; exact ZcY h2
theorem tl_j {s : Pz.Src} (h : wfOn nmOk s) : Tl_ (txJ s) (tkJ s) := by
 obtain ⟨h1, x, h2, hx⟩ := h
 unfold txJ tkJ
 rw [h2]
 have : allA (joinC ([x].map prE)) = (tkE x, 0) := by rw [Zbk (l := [x]) (fun y hy => by rw [List.mem_singleton.1 hy]; exact hx)]; simp [sepK]
 exact Z4f (cut2 Zjk (Z4r (Zf7 h1) (Z4f (cut2 Zfo this))))
theorem ZiF : ∀ {l : List Pz.Src}, (∀ j ∈ l, wfOn nmOk j) → Tl_ (l.flatMap txJ) (l.flatMap tkJ)
 | [], _ => Z4x
 | j :: l, h => by
   rw [List.flatMap_cons, List.flatMap_cons]
   exact (tl_j (h j List.mem_cons_self)).app (ZiF fun y hy => h y (List.mem_cons_of_mem _ hy))
theorem Zjl {l : List Ex} (h : wfL 16 (Wf nmOk) l) : allA (txR l) = (tkR l, 0) := Zag (Zbk h.2.2)
theorem Zj1 {p : ByteArray × Ex} (h : nmOk p.1 ∧ Wf nmOk p.2) : allA (txSet p) = (tkSet p, 0) := cut2 (Z3t h.1) (cut2 ZjE (ZcY h.2))
theorem Zho {l : List ByteArray} (h : ∀ x ∈ l, nmOk x) : allA (joinC (l.map tx)) = (sepK tkN l, 0) := Z57 l fun x hx => Z3t (h x hx)
theorem Zlo {l : List ByteArray} (h : l = [] ∨ wfL 16 nmOk l) : Tl_ (txNs l) (tkIns l) := by
 rcases h with rfl | h
 · exact Z4x
 · unfold txNs tkIns
   rw [if_neg (by rw [Z8c h]; simp), if_neg (by rw [Z8c h]; simp)]
   exact Z4f (Zag (Zho h.2.2))
theorem ZiH {s : St} (h : WfS nmOk s) : allA (txS s) = (tkS s, 0) := by
 cases h with
 | @tab tb cols h hc => exact cut2 ZjX (cut2 (Z3t h) (Zag (Z57 (p := txC) (tk := tkC) cols fun x hx => Zld (hc.2.2 x hx))))
 | @idx nm tb m hash h1 h2 h3 =>
   have hn : allA (joinC ([m].map tx)) = (sepK tkN [m], 0) := Zho fun x hx => by rw [List.mem_singleton.1 hx]; exact h3
   have h4 : Tl_ (if hash then 32 :: kUH else []) (if hash then [kw Z5u, kw Z9V] else []) := by
     cases hash with
     | true => exact Z4f Zj5
     | false => exact Z4x
   have h5 := Z4r (Zag hn) h4
   have h6 := cut2 ZiX (cut2 (Z3t h1) (cut2 Zfo (cut2 (Z3t h2) h5)))
   refine h6.trans ?_
   show (_, (0 : Int)) = (tkS { stK 2 with nm := nm, tb := tb, names := [m], hash := hash }, 0)
   simp [tkS, stK]
 | @ins tb names rows h hn hr =>
   have h1 := Z4r (Z3t h) ((Zlo hn).app (Z4f (cut2 Zja (Z57 (p := txR) (tk := tkR) rows fun x hx => Zjl (hr.2.2 x hx)))))
   exact (cut2 Zk6 h1).trans (by simp [tkS, stK])
 | @sel items s js wh gr od lim hi hs hs0 hj hj3 hw hg ho hl =>
   have h1 := (ZfK hw).app ((ZlG hg).app ((ZlA ho).app (ZkK hl)))
   have h2 := Z4r (Z4r (Zf7 hs) (ZiF hj)) h1
   have h3 := cut2 Zk7 (cut2 (Z57 (p := txItm) (tk := tkItm) items fun x hx => Zka (hi.2.2 x hx)) (cut2 ZjN h2))
   have e : txFr (s :: js) = txSrc s ++ js.flatMap txJ := by
     show (txSrc s ++ txCl kON s.on) ++ js.flatMap txJ = _
     rw [hs0]; simp [txCl]
   show allA (txQ _) = _
   unfold txQ
   dsimp only
   rw [e]
   refine h3.trans ?_
   simp [tkS, stK, tkFr]
 | @upd tb l wh h hl hw =>
   have h1 := cut2 ZiQ (cut2 (Z3t h) (cut2 Zjr (Z4r (Z57 (p := txSet) (tk := tkSet) l fun x hx => Zj1 (hl.2.2 x hx)) (ZfK hw))))
   show allA (kUP ++ 32 :: (tx tb ++ 32 :: (kST ++ 32 :: (joinC (((l.map (·.1)).zip (l.map (·.2))).map txSet) ++ txCl kWH wh)))) = _
   rw [Zap]
   refine h1.trans ?_
   simp [tkS, stK, Zap]
 | @del tb wh h hw => exact (cut2 ZiP (Z4r (Z3t h) (ZfK hw))).trans (by simp [tkS, stK])
 | pl h => rcases h with rfl|rfl|rfl <;> decide +kernel
end Go.Proofs.YtbedigkncjbggaaGreatDoor
set_option maxRecDepth 20000
namespace Go.Proofs.YtbedigkncjbggaaGreatDoor
open Go Go.Vc Go.Pz
end Go.Proofs.YtbedigkncjbggaaGreatDoor
set_option maxRecDepth 20000
namespace Go.Proofs.YtbedigkncjbggaaGreatDoor
open Go Go.Vc Go.Pz
theorem Zjt (w : List UInt8) : (wordL w).1.n = 0 := by
 unfold wordL
 repeat' split
 all_goals rfl
theorem Zgv (l : List UInt8) : (endT l).1.n = 0 := by
 unfold endT
 split <;> rfl
theorem Zcc : ∀ (l acc : List UInt8), (textL l acc).1.1.n = 0
 | [], acc => by unfold textL; rfl
 | b :: l, acc => by
   cases l with
   | nil =>
     unfold textL
     repeat' split
     all_goals first|rfl|exact Zgv _|(unfold textL; rfl)
   | cons c l =>
     have h1 := Zcc l
     have h2 := Zcc (c :: l)
     unfold textL
     repeat' split
     all_goals first|rfl|exact Zgv _|exact h1 _|exact h2 _
theorem ZiL (l : List UInt8) : (signL l).1.1.n = 0 := by
 unfold signL
 repeat' split
 all_goals rfl
theorem Zlv (l : List UInt8) (h : (numL l).1.k = 2) : False := by
 unfold numL at h
 repeat' split at h
 all_goals simp [t3D] at h
theorem Zj6 {l : List UInt8} (h : (stepL l).1.1.k = 2) : (stepL l).1.1.n = 0 := by
 cases l with
 | nil => rfl
 | cons b l =>
   by_cases h1 : letB b = true
   · rw [stepL, if_pos h1]; exact Zjt _
   by_cases h2 : digB b = true
   · rw [stepL, if_neg h1, if_pos h2] at h; exact (Zlv _ h).elim
   by_cases h3 : (b == 39) = true
   · rw [stepL, if_neg h1, if_neg h2, if_pos h3]; exact Zcc _ _
   rw [stepL, if_neg h1, if_neg h2, if_neg h3]; exact ZiL _
theorem ZhD {x : T3} (h : tokO x) (hk : x.k = 2) : nmOk x.t := by
 obtain ⟨k, t, n⟩ := x
 dsimp only at hk
 subst hk
 obtain ⟨b, r, h1, h2, h3⟩ := h.1
 have h4 := h3 [] (.inl rfl)
 have h5 : n = 0 := by
   have := Zj6 (l := showT ⟨2, t, n⟩ ++ []) (by rw [h4])
   rw [h4] at this
   exact this
 subst h5
 exact ⟨h.1, h.2.2.2⟩
theorem ZjZ (l : List UInt8) : tkL nmOk (lexL l).1 := fun x hx => by
 have h := ZjS l x hx
 exact ⟨ZhD h, fun hk => (h.2.1 hk).2, fun hk => h.2.2.1 hk⟩
theorem Zaq {l : List UInt8} (h : (prS l).2 = 0) : WfS nmOk (prS l).1 ∧ deepS (prS l).1 = false := by
 have he := Zh8 h
 rw [ZdI he] at h ⊢
 obtain ⟨s, r, h1, _, h3, h4⟩ := Zdf h
 rw [h4]
 exact ⟨Zil (ZdQ _) (Z2l _) _ _ (ZjZ l) h1, h3⟩
theorem Zh1 {a b : St} (ha : WfS nmOk a) (hb : WfS nmOk b) (h : txS a = txS b) : a = b := by
 have h1 := ZiH ha
 rw [h, ZiH hb] at h1
 injection h1 with h1 _
 have h2 := ZdX ZbC ha
 rw [← h1, ZdX ZbC hb] at h2
 injection h2 with h2
 exact h2.symm
end Go.Proofs.YtbedigkncjbggaaGreatDoor
