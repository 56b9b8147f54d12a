/- The closed facts on the types of the program. No condition. -/
import Derived.Test.YtbedigkncjbggaaGreatDoorProg
import Derived.Test.YtbedigkncjbggaaGreatDoorXG7
import Derived.Test.YtbedigkncjbggaaGreatDoorXG3
namespace Go.Vc
open Go
abbrev Nx := @JX.next
abbrev Nb := @JX.normal_block
abbrev Rp := @JX.ret_pass
abbrev Rb := @JX.ret_block
abbrev Ht := @JX.hit
abbrev Ms := @JX.miss
abbrev Ep := @JX.exit_pass
abbrev Sq := @J.seq
abbrev Pn := @J.plain
abbrev Ni := @JO.nil
abbrev Mh := @List.mem_cons_self
abbrev Mt := @List.mem_cons_of_mem
abbrev Mc := @List.mem_cons
theorem dT {p : Prop} [Decidable p] : (decide p = true) = p := decide_eq_true_eq
theorem dF {p : Prop} [Decidable p] : (decide p = false) ↔ ¬ p := decide_eq_false_iff_not
theorem nA {α : Type _} {l : List α} : [] ++ l = l := rfl
theorem cA {α : Type _} {a : α} {l k : List α} : (a :: l) ++ k = a :: (l ++ k) := rfl
abbrev Ut := @Upd.there
abbrev cI := @Z19
abbrev cE := @Z5c
abbrev cO := @Z3F
abbrev Jt := @JO.t
abbrev Sl := @J.sel
abbrev Cd := @J.cond
abbrev Rt := @J.ret
abbrev Sk := @J.skip
abbrev Bk := @J.block
abbrev Rn := @RT.nil
abbrev Rq := @RT.t
abbrev Rg := @RT.g
end Go.Vc
namespace Go.Proofs.YtbedigkncjbggaaGreatDoor
open Go Go.Vc
abbrev Zgm : Nat := 2
abbrev ZeY : Nat := 3
abbrev Z8o : Nat := 4
abbrev ZfF : Nat := 5
abbrev Zg7 : Nat := 6
abbrev ZfB : Nat := 7
abbrev Zet : Nat := 8
abbrev Zg1 : Nat := 9
abbrev ZfC : Nat := 10
abbrev ZfM : Nat := 11
abbrev Zb3 : Nat := 12
abbrev Z3l : Nat := 13
abbrev Zi0 : Nat := 14
abbrev Zch : Nat := 15
abbrev ZhO : Nat := 16
abbrev Z69 : Nat := 17
abbrev ZcK : Nat := 18
abbrev Zi3 : Nat := 19
abbrev Zi9 : Nat := 20
abbrev Zi8 : Nat := 21
abbrev ZiJ : Nat := 22
abbrev ZiI : Nat := 23
abbrev Zfz : Nat := 24
abbrev Z2m : Nat := 25
abbrev Z3h : Nat := 26
abbrev Z70 : Nat := 27
abbrev Z79 : Nat := 28
abbrev ZbR : Nat := 29
abbrev ZiR : Nat := 30
abbrev Zdo : Nat := 31
abbrev Zcq : Nat := 32
abbrev Zcw : Nat := 33
abbrev ZcR : Nat := 34
abbrev Zct : Nat := 35
abbrev Zdj : Nat := 36
abbrev Zds : Nat := 37
abbrev Zd1 : Nat := 38
abbrev ZdH : Nat := 39
abbrev Zb5 : Nat := 40
abbrev Z5t : Nat := 41
abbrev Zcx : Nat := 42
abbrev ZhL : Nat := 43
abbrev Zhs : Nat := 44
abbrev Zhj : Nat := 45
abbrev ZhS : Nat := 46
abbrev ZhG : Nat := 47
abbrev Ziy : Nat := 48
abbrev Zif : Nat := 49
abbrev ZhZ : Nat := 50
abbrev ZhV : Nat := 51
abbrev Zi6 : Nat := 52
abbrev Zha : Nat := 53
abbrev ZiK : Nat := 54
abbrev ZiF : Nat := 55
abbrev Z73 : Nat := 56
abbrev Z7o : Nat := 57
abbrev Z2G : Nat := 58
abbrev Z2I : Nat := 59
abbrev Z2V : Nat := 60
abbrev Z2H : Nat := 61
abbrev Z2F : Nat := 62
abbrev Zb7 : Nat := 63
abbrev Z7c : Nat := 64
abbrev Z6Y : Nat := 65
abbrev Z4R : Nat := 66
abbrev Zi7 : Nat := 67
abbrev Zil : Nat := 68
abbrev ZhM : Nat := 69
abbrev Zhb : Nat := 70
abbrev Zin : Nat := 71
abbrev Zer : Nat := 72
abbrev Zcu : Nat := 73
abbrev ZcH : Nat := 74
abbrev Zdz : Nat := 75
abbrev Zcs : Nat := 76
abbrev Zde : Nat := 77
abbrev Zea : Nat := 78
abbrev ZdV : Nat := 79
abbrev Zc8 : Nat := 80
abbrev Z9s : Nat := 81
abbrev ZaW : Nat := 82
abbrev ZbO : Nat := 83
abbrev Zgh : Nat := 84
abbrev Zdn : Nat := 85
abbrev ZdM : Nat := 86
abbrev Zih : Nat := 87
abbrev Ze1 : Nat := 88
abbrev ZiQ : Nat := 89
abbrev Zhv : Nat := 90
abbrev ZiV : Nat := 91
abbrev Zep : Nat := 92
abbrev Z8P : Nat := 93
abbrev Ze6 : Nat := 94
abbrev Zem : Nat := 95
abbrev ZiT : Nat := 96
abbrev Z85 : Nat := 97
abbrev Zcd : Nat := 98
abbrev Z4H : Nat := 99
abbrev Z92 : Nat := 100
abbrev Z3W : Nat := 101
abbrev Z4v : Nat := 102
abbrev Z4I : Nat := 103
abbrev Z77 : Nat := 104
abbrev Z4a : Nat := 105
abbrev Z5y : Nat := 106
abbrev Z3T : Nat := 107
abbrev Z6G : Nat := 108
abbrev Z6U : Nat := 109
abbrev Z3z : Nat := 110
abbrev Z2v : Nat := 111
abbrev Z6k : Nat := 112
abbrev Zx : Nat := 113
abbrev Z4m : Nat := 114
abbrev Z4f : Nat := 115
abbrev Z6g : Nat := 116
abbrev Z6T : Nat := 117
abbrev Z4g : Nat := 118
abbrev Z4u : Nat := 119
abbrev Z3e : Nat := 120
abbrev Z4J : Nat := 121
abbrev Z3s : Nat := 122
abbrev Z1m : Nat := 123
abbrev ZhX : Nat := 124
abbrev Zi4 : Nat := 125
abbrev ZdL : Nat := 126
abbrev ZcC : Nat := 127
abbrev Zcr : Nat := 128
abbrev Z9S : Nat := 129
abbrev Zcg : Nat := 130
abbrev Zcv : Nat := 131
abbrev Za2 : Nat := 132
abbrev Z9T : Nat := 133
abbrev Zi2 : Nat := 134
abbrev Zg2 : Nat := 135
abbrev Z9V : Nat := 136
abbrev ZfZ : Nat := 137
abbrev Z98 : Nat := 138
abbrev Z84 : Nat := 139
abbrev Z3Z : Nat := 140
abbrev Z8c : Nat := 141
abbrev Z8O : Nat := 142
abbrev Z3R : Nat := 143
abbrev Z65 : Nat := 144
abbrev Z6Q : Nat := 145
abbrev Z2u : Nat := 146
abbrev ZbG : Nat := 149
abbrev Zao : Nat := 150
abbrev Z9t : Nat := 151
abbrev Z9U : Nat := 152
abbrev Z8U : Nat := 153
abbrev ZcD : Nat := 154
abbrev Z9X : Nat := 155
abbrev Zcz : Nat := 156
abbrev Ziv : Nat := 157
abbrev Zh8 : Nat := 158
abbrev Zh3 : Nat := 159
abbrev Zg4 : Nat := 161
abbrev Zen : Nat := 162
abbrev Zg6 : Nat := 163
abbrev ZbI : Nat := 164
abbrev Z1H : Nat := 165
abbrev Zal : Nat := 166
abbrev Zg8 : Nat := 167
abbrev Zaj : Nat := 168
abbrev Z9r : Nat := 169
abbrev Zbb : Nat := 170
abbrev Z87 : Nat := 171
abbrev Zbd : Nat := 172
abbrev ZiA : Nat := 173
abbrev Z9g : Nat := 174
abbrev Zam : Nat := 176
abbrev Zb6 : Nat := 177
abbrev Z2s : Nat := 178
abbrev ZaT : Nat := 179
abbrev ZaG : Nat := 180
abbrev Z8R : Nat := 181
abbrev Zbf : Nat := 182
abbrev Zdc : Nat := 183
abbrev Zb8 : Nat := 185
abbrev Z7q : Nat := 186
abbrev Zhr : Nat := 187
abbrev ZhN : Nat := 188
abbrev Z20 : Nat := 189
abbrev Z8V : Nat := 190
abbrev Z1p : Nat := 191
abbrev Z2k : Nat := 192
abbrev Z9E : Nat := 193
abbrev Z6a : Nat := 194
abbrev ZgV : Nat := 225
abbrev Zjl : Nat := 0
abbrev Zc0 : Nat := 2
abbrev Z3Y : Nat := 3
abbrev Zdy : Nat := 4
abbrev Z7J : Nat := 5
abbrev ZcP : Nat := 6
abbrev Zd2 : Nat := 8
abbrev ZN : Nat := 9
abbrev ZcN : Nat := 10
abbrev ZdF : Nat := 11
abbrev ZiU : Nat := 12
abbrev Z9R : Nat := 14
abbrev Z9u : Nat := 15
abbrev Zb4 : Nat := 16
abbrev Zi1 : Nat := 17
abbrev ZaB : Nat := 19
abbrev Zic : Nat := 20
abbrev Zjj : Nat := 21
abbrev Zgd : Nat := 23
abbrev Zir : Nat := 24
abbrev Zg3 : Nat := 25
abbrev Zhp : Nat := 26
abbrev Zge : Nat := 27
abbrev Z1j : Nat := 28
abbrev ZhW : Nat := 29
abbrev Zw : Nat := 31
abbrev Z1B : Nat := 32
abbrev Zdk : Nat := 33
abbrev ZiM : Nat := 37
abbrev Zbw : Nat := 40
abbrev Z6 : Nat := 42
abbrev Z1M : Nat := 46
abbrev ZS : Nat := 50
abbrev Zh4 : Nat := 55
abbrev Zba : Nat := 56
abbrev Z7l : Nat := 59
abbrev Zeo : Nat := 60
abbrev Zg9 : Nat := 61
abbrev Z2l : Nat := 63
abbrev ZhU : Nat := 67
abbrev Zbm : Nat := 68
abbrev ZcB : Nat := 70
abbrev Z80 : Nat := 76
abbrev Z1Z : Nat := 78
abbrev Zgf : Nat := 90
abbrev Z14 : Nat := 92
abbrev Z22 : Nat := 94
abbrev ZcI : Nat := 95
abbrev Z7h : Nat := 100
abbrev Zi5 : Nat := 106
abbrev ZhY : Nat := 108
abbrev Ze7 : Nat := 116
abbrev ZeS : Nat := 118
abbrev Zbk : Nat := 120
abbrev Zji : Nat := 121
abbrev Zio : Nat := 122
abbrev Zje : Nat := 136
abbrev Zjb : Nat := 158
abbrev Zj4 : Nat := 160
abbrev Zjk : Nat := 161
abbrev Zjf : Nat := 170
abbrev Zg5 : Nat := 172
abbrev Zfd : Nat := 178
abbrev Zid : Nat := 180
abbrev Zjh : Nat := 194
abbrev ZhT : Nat := 199
abbrev Zcy : Nat := 201
abbrev ZeX : Nat := 202
abbrev Zh6 : Nat := 204
abbrev ZcA : Nat := 206
abbrev Zeq : Nat := 209
abbrev ZcZ : Nat := 211
abbrev ZdQ : Nat := 214
abbrev Zdl : Nat := 215
abbrev Zdt : Nat := 217
abbrev Zjg : Nat := 218
abbrev ZeI : Nat := 220
abbrev ZeT : Nat := 223
abbrev Ziq : Nat := 228
abbrev Zek : Nat := 230
abbrev ZgC : Nat := 231
abbrev Ze4 : Nat := 233
abbrev Zel : Nat := 234
abbrev Zg0 : Nat := 236
abbrev Z9W : Nat := 238
abbrev ZbC : Nat := 241
abbrev Zib : Nat := 242
abbrev ZiP : Nat := 243
abbrev Zhl : Nat := 245
abbrev ZhE : Nat := 246
abbrev ZiO : Nat := 248
theorem Z9h : ApTy Tryz.prog 23 50 4 32 := ⟨by kernel_rfl, by kernel_rfl⟩
theorem Z1c : ApTy Tryz.prog 28 42 8 104 := ⟨by kernel_rfl, by kernel_rfl⟩
theorem Zai : ApTy Tryz.prog 26 46 9 112 := ⟨by kernel_rfl, by kernel_rfl⟩
theorem ZaX : ApTy Tryz.prog 29 78 9 112 := ⟨by kernel_rfl, by kernel_rfl⟩
theorem Z9b : ApTy Tryz.prog 27 76 3 56 := ⟨by kernel_rfl, by kernel_rfl⟩
theorem Z9A : ApTy Tryz.prog 55 94 3 32 := ⟨by kernel_rfl, by kernel_rfl⟩
theorem Z8K : ApTy Tryz.prog 25 28 1 24 := ⟨by kernel_rfl, by kernel_rfl⟩
theorem Zbn : ApTy Tryz.prog 24 9 1 16 := ⟨by kernel_rfl, by kernel_rfl⟩
theorem Z3p : ApTy Tryz.prog 37 5 1 1 := ⟨by kernel_rfl, by kernel_rfl⟩
theorem Z63 : elSize Tryz.prog 23 = some 4 := by kernel_rfl
theorem Z2z : elSize Tryz.prog 28 = some 8 := by kernel_rfl
theorem Z2X : elSize Tryz.prog 26 = some 9 := by kernel_rfl
theorem Z43 : elSize Tryz.prog 29 = some 9 := by kernel_rfl
theorem Z1A : elSize Tryz.prog 27 = some 3 := by kernel_rfl
theorem ZX : elSize Tryz.prog 55 = some 3 := by kernel_rfl
theorem Zfr : elSize Tryz.prog 170 = some 1 := by kernel_rfl
theorem Z2q : elSize Tryz.prog 25 = some 1 := by kernel_rfl
theorem Z33 : elSize Tryz.prog 24 = some 1 := by kernel_rfl
theorem ZcV : elSize Tryz.prog 37 = some 1 := by kernel_rfl
theorem Z3t : fldOff Tryz.prog 50 1 = some 1 := by kernel_rfl
theorem Z4s : fldOff Tryz.prog 50 2 = some 2 := by kernel_rfl
theorem Z3q : fldOff Tryz.prog 50 3 = some 3 := by kernel_rfl
theorem Z5o : fldOff Tryz.prog 42 0 = some 0 := by kernel_rfl
theorem Z7T : fldOff Tryz.prog 42 1 = some 1 := by kernel_rfl
theorem Z5s : fldOff Tryz.prog 42 2 = some 4 := by kernel_rfl
theorem Z45 : fldOff Tryz.prog 42 3 = some 5 := by kernel_rfl
theorem Z7Z : fldOff Tryz.prog 42 4 = some 6 := by kernel_rfl
theorem Z5n : fldOff Tryz.prog 42 5 = some 7 := by kernel_rfl
theorem Z5m : fldOff Tryz.prog 46 0 = some 0 := by kernel_rfl
theorem Z7Q : fldOff Tryz.prog 46 1 = some 1 := by kernel_rfl
theorem Z8l : fldOff Tryz.prog 78 0 = some 0 := by kernel_rfl
theorem Z64 : fldOff Tryz.prog 78 1 = some 8 := by kernel_rfl
theorem Z6D : fldOff Tryz.prog 76 0 = some 0 := by kernel_rfl
theorem Z4B : fldOff Tryz.prog 76 1 = some 1 := by kernel_rfl
theorem Z2R : fldOff Tryz.prog 76 2 = some 2 := by kernel_rfl
theorem Z44 : fldOff Tryz.prog 31 0 = some 0 := by kernel_rfl
theorem Z42 : fldOff Tryz.prog 31 1 = some 1 := by kernel_rfl
theorem Z1t : fldOff Tryz.prog 31 10 = some 10 := by kernel_rfl
theorem Z2b : fldOff Tryz.prog 31 11 = some 11 := by kernel_rfl
theorem Z3P : fldOff Tryz.prog 31 12 = some 12 := by kernel_rfl
theorem Z4T : fldOff Tryz.prog 31 13 = some 13 := by kernel_rfl
theorem Z5p : fldOff Tryz.prog 31 2 = some 2 := by kernel_rfl
theorem Z2N : fldOff Tryz.prog 31 3 = some 3 := by kernel_rfl
theorem Z28 : fldOff Tryz.prog 31 4 = some 4 := by kernel_rfl
theorem Z1D : fldOff Tryz.prog 31 5 = some 5 := by kernel_rfl
theorem Z1q : fldOff Tryz.prog 31 6 = some 6 := by kernel_rfl
theorem Z11 : fldOff Tryz.prog 31 7 = some 7 := by kernel_rfl
theorem Z24 : fldOff Tryz.prog 31 8 = some 8 := by kernel_rfl
theorem Z3i : fldOff Tryz.prog 31 9 = some 9 := by kernel_rfl
theorem Z2B : fldOff Tryz.prog 94 0 = some 0 := by kernel_rfl
theorem Z4Q : fldOff Tryz.prog 94 1 = some 1 := by kernel_rfl
theorem Zar : fldOff Tryz.prog 94 2 = some 2 := by kernel_rfl
theorem ZD : fldOff Tryz.prog 92 0 = some 0 := by kernel_rfl
theorem Zc : fldOff Tryz.prog 92 1 = some 1 := by kernel_rfl
theorem Zg : fldOff Tryz.prog 63 0 = some 0 := by kernel_rfl
theorem Zb1 : Shape Tryz.prog 50 (fun i => #[(0, 1), (1, 1), (2, 1), (3, 1)][i]?) [.string ⟨#[]⟩, .int .i64 0, .bool false, .bool false] := ⟨fun _ => by kernel_rfl⟩
theorem Z56 : Shape Tryz.prog 42 (fun i => #[(0, 1), (1, 3), (4, 1), (5, 1), (6, 1), (7, 1)][i]?) [.int .i64 0, .int .i64 0, .int .i64 0, .string ⟨#[]⟩, .string ⟨#[]⟩, .string ⟨#[]⟩, .int .i64 0, .slice none 0 0] := ⟨fun _ => by kernel_rfl⟩
theorem Z8Y : Shape Tryz.prog 46 (fun i => #[(0, 1), (1, 8)][i]?) [.bool false, .int .i64 0, .int .i64 0, .int .i64 0, .string ⟨#[]⟩, .string ⟨#[]⟩, .string ⟨#[]⟩, .int .i64 0, .slice none 0 0] := ⟨fun _ => by kernel_rfl⟩
theorem ZdU : Shape Tryz.prog 78 (fun i => #[(0, 8), (8, 1)][i]?) [.int .i64 0, .int .i64 0, .int .i64 0, .string ⟨#[]⟩, .string ⟨#[]⟩, .string ⟨#[]⟩, .int .i64 0, .slice none 0 0, .bool false] := ⟨fun _ => by kernel_rfl⟩
theorem Zb0 : Shape Tryz.prog 76 (fun i => #[(0, 1), (1, 1), (2, 1)][i]?) [.string ⟨#[]⟩, .string ⟨#[]⟩, .slice none 0 0] := ⟨fun _ => by kernel_rfl⟩
theorem Z1X : Shape Tryz.prog 31 (fun i => #[(0, 1), (1, 1), (2, 1), (3, 1), (4, 1), (5, 1), (6, 1), (7, 1), (8, 1), (9, 1), (10, 1), (11, 1), (12, 1), (13, 1)][i]?) [.int .i64 0, .string ⟨#[]⟩, .string ⟨#[]⟩, .slice none 0 0, .slice none 0 0, .slice none 0 0, .slice none 0 0, .slice none 0 0, .slice none 0 0, .slice none 0 0, .slice none 0 0, .int .i64 0, .slice none 0 0, .bool false] := ⟨fun _ => by kernel_rfl⟩
theorem Z1k : Shape Tryz.prog 94 (fun i => #[(0, 1), (1, 1), (2, 1)][i]?) [.int .i64 0, .string ⟨#[]⟩, .int .i64 0] := ⟨fun _ => by kernel_rfl⟩
theorem Z3C : Shape Tryz.prog 40 (fun i => #[(0, 1), (1, 1), (2, 1)][i]?) [.int .i64 0, .int .i64 0, .string ⟨#[]⟩] := ⟨fun _ => by kernel_rfl⟩
theorem Zae : Shape Tryz.prog 92 (fun i => #[(0, 1), (1, 1)][i]?) [.string ⟨#[]⟩, .int .i64 0] := ⟨fun _ => by kernel_rfl⟩
theorem Z7d : Shape Tryz.prog 59 (fun i => #[][i]?) [] := ⟨fun _ => by kernel_rfl⟩
theorem Z6E : Shape Tryz.prog 63 (fun i => #[(0, 1)][i]?) [.slice none 0 0] := ⟨fun _ => by kernel_rfl⟩
theorem Z6d : SlShape Tryz.prog 23 50 4 [.string ⟨#[]⟩, .int .i64 0, .bool false, .bool false] := ⟨by kernel_rfl, by kernel_rfl, by omega⟩
theorem ZL : SlShape Tryz.prog 28 42 8 [.int .i64 0, .int .i64 0, .int .i64 0, .string ⟨#[]⟩, .string ⟨#[]⟩, .string ⟨#[]⟩, .int .i64 0, .slice none 0 0] := ⟨by kernel_rfl, by kernel_rfl, by omega⟩
theorem Z7g : SlShape Tryz.prog 26 46 9 [.bool false, .int .i64 0, .int .i64 0, .int .i64 0, .string ⟨#[]⟩, .string ⟨#[]⟩, .string ⟨#[]⟩, .int .i64 0, .slice none 0 0] := ⟨by kernel_rfl, by kernel_rfl, by omega⟩
theorem Z7V : SlShape Tryz.prog 29 78 9 [.int .i64 0, .int .i64 0, .int .i64 0, .string ⟨#[]⟩, .string ⟨#[]⟩, .string ⟨#[]⟩, .int .i64 0, .slice none 0 0, .bool false] := ⟨by kernel_rfl, by kernel_rfl, by omega⟩
theorem Z5R : SlShape Tryz.prog 27 76 3 [.string ⟨#[]⟩, .string ⟨#[]⟩, .slice none 0 0] := ⟨by kernel_rfl, by kernel_rfl, by omega⟩
theorem Z9L : SlShape Tryz.prog 55 94 3 [.int .i64 0, .string ⟨#[]⟩, .int .i64 0] := ⟨by kernel_rfl, by kernel_rfl, by omega⟩
theorem Z6s : SlShape Tryz.prog 170 3 1 [.int .i64 0] := ⟨by kernel_rfl, by kernel_rfl, by omega⟩
theorem Z3V : SlShape Tryz.prog 25 28 1 [.slice none 0 0] := ⟨by kernel_rfl, by kernel_rfl, by omega⟩
theorem Z1Y : SlShape Tryz.prog 24 9 1 [.string ⟨#[]⟩] := ⟨by kernel_rfl, by kernel_rfl, by omega⟩
theorem Z3m : SlShape Tryz.prog 37 5 1 [.int .u8 0] := ⟨by kernel_rfl, by kernel_rfl, by omega⟩
theorem Z3j : (Tryz.prog.info? 50).map (·.size) = some 4 := by kernel_rfl
theorem Z3x : (Tryz.prog.info? 32).map (·.size) = some 1 := by kernel_rfl
theorem Zo : (Tryz.prog.info? 42).map (·.size) = some 8 := by kernel_rfl
theorem Z6F : (Tryz.prog.info? 46).map (·.size) = some 9 := by kernel_rfl
theorem Z5x : (Tryz.prog.info? 78).map (·.size) = some 9 := by kernel_rfl
theorem Z3g : (Tryz.prog.info? 76).map (·.size) = some 3 := by kernel_rfl
theorem Zj : (Tryz.prog.info? 31).map (·.size) = some 14 := by kernel_rfl
theorem Z17 : (Tryz.prog.info? 94).map (·.size) = some 3 := by kernel_rfl
theorem Z3O : (Tryz.prog.info? 4).map (·.size) = some 1 := by kernel_rfl
theorem Z38 : (Tryz.prog.info? 3).map (·.size) = some 1 := by kernel_rfl
theorem Z7j : (Tryz.prog.info? 59).map (·.size) = some 0 := by kernel_rfl
theorem Z9k : (Tryz.prog.info? 23).map (·.size) = some 1 := by kernel_rfl
theorem Z2Z : (Tryz.prog.info? 28).map (·.size) = some 1 := by kernel_rfl
theorem Z9Y : (Tryz.prog.info? 26).map (·.size) = some 1 := by kernel_rfl
theorem Z7Y : (Tryz.prog.info? 29).map (·.size) = some 1 := by kernel_rfl
theorem Z5Y : (Tryz.prog.info? 27).map (·.size) = some 1 := by kernel_rfl
theorem Z3v : (Tryz.prog.info? 55).map (·.size) = some 1 := by kernel_rfl
theorem Z5u : (Tryz.prog.info? 25).map (·.size) = some 1 := by kernel_rfl
theorem Z60 : (Tryz.prog.info? 24).map (·.size) = some 1 := by kernel_rfl
theorem Z4e : (Tryz.prog.info? 9).map (·.size) = some 1 := by kernel_rfl
theorem Z1F : szOf Tryz.prog 50 = some (some 4) := by kernel_rfl
theorem Z2f : szOf Tryz.prog 32 = some none := by kernel_rfl
theorem Ze : szOf Tryz.prog 42 = some (some 8) := by kernel_rfl
theorem Z6O : szOf Tryz.prog 46 = some (some 9) := by kernel_rfl
theorem Z4y : szOf Tryz.prog 78 = some (some 9) := by kernel_rfl
theorem Z2K : szOf Tryz.prog 76 = some (some 3) := by kernel_rfl
theorem Z8 : szOf Tryz.prog 31 = some (some 14) := by kernel_rfl
theorem ZW : szOf Tryz.prog 94 = some (some 3) := by kernel_rfl
theorem Z5U : szOf Tryz.prog 40 = some (some 3) := by kernel_rfl
theorem Z4O : szOf Tryz.prog 4 = some none := by kernel_rfl
theorem ZA : szOf Tryz.prog 3 = some none := by kernel_rfl
theorem Zgo : szOf Tryz.prog 2 = some none := by kernel_rfl
theorem Z2E : szOf Tryz.prog 23 = some none := by kernel_rfl
theorem Zt : szOf Tryz.prog 28 = some none := by kernel_rfl
theorem Z1u : szOf Tryz.prog 26 = some none := by kernel_rfl
theorem Z27 : szOf Tryz.prog 29 = some none := by kernel_rfl
theorem ZR : szOf Tryz.prog 27 = some none := by kernel_rfl
theorem Zs : szOf Tryz.prog 55 = some none := by kernel_rfl
theorem Z1v : szOf Tryz.prog 25 = some none := by kernel_rfl
theorem Z3D : szOf Tryz.prog 24 = some none := by kernel_rfl
theorem Zu : szOf Tryz.prog 9 = some none := by kernel_rfl
theorem Zgu : szOf Tryz.prog 5 = some none := by kernel_rfl
theorem Zah : Tryz.prog.underlying 4 = some .bool := by kernel_rfl
theorem ZgT : Tryz.prog.underlying 2 = some (.int .i64) := by kernel_rfl
theorem Zm : Tryz.prog.underlying 100 = some (.map 9 98) := by kernel_rfl
theorem Z1d : Tryz.prog.underlying 236 = some (.map 9 3) := by kernel_rfl
theorem Z2C : Tryz.prog.underlying 23 = some (.slice 50) := by kernel_rfl
theorem Zn : Tryz.prog.underlying 28 = some (.slice 42) := by kernel_rfl
theorem Z1T : Tryz.prog.underlying 26 = some (.slice 46) := by kernel_rfl
theorem Z2n : Tryz.prog.underlying 29 = some (.slice 78) := by kernel_rfl
theorem Z1S : Tryz.prog.underlying 27 = some (.slice 76) := by kernel_rfl
theorem ZY : Tryz.prog.underlying 55 = some (.slice 94) := by kernel_rfl
theorem Z1x : Tryz.prog.underlying 25 = some (.slice 28) := by kernel_rfl
theorem Z21 : Tryz.prog.underlying 24 = some (.slice 9) := by kernel_rfl
theorem Z1Q : Tryz.prog.underlying 37 = some (.slice 5) := by kernel_rfl
theorem Zl : Tryz.prog.underlying 9 = some .string := by kernel_rfl
theorem Z7x : Tryz.prog.underlying 5 = some (.int .u8) := by kernel_rfl
theorem Z7X : zeroOf Tryz.prog 50 = some (.agg #[.string ⟨#[]⟩, .int .i64 0, .bool false, .bool false]) := by kernel_rfl
theorem Zce : zeroOf Tryz.prog 32 = some (.int .i64 0) := by kernel_rfl
theorem Z16 : zeroOf Tryz.prog 42 = some (.agg #[.int .i64 0, .int .i64 0, .int .i64 0, .string ⟨#[]⟩, .string ⟨#[]⟩, .string ⟨#[]⟩, .int .i64 0, .slice none 0 0]) := by kernel_rfl
theorem Z96 : zeroOf Tryz.prog 46 = some (.agg #[.bool false, .int .i64 0, .int .i64 0, .int .i64 0, .string ⟨#[]⟩, .string ⟨#[]⟩, .string ⟨#[]⟩, .int .i64 0, .slice none 0 0]) := by kernel_rfl
theorem Z7N : zeroOf Tryz.prog 78 = some (.agg #[.int .i64 0, .int .i64 0, .int .i64 0, .string ⟨#[]⟩, .string ⟨#[]⟩, .string ⟨#[]⟩, .int .i64 0, .slice none 0 0, .bool false]) := by kernel_rfl
theorem Z41 : zeroOf Tryz.prog 76 = some (.agg #[.string ⟨#[]⟩, .string ⟨#[]⟩, .slice none 0 0]) := by kernel_rfl
theorem ZU : zeroOf Tryz.prog 31 = some (.agg #[.int .i64 0, .string ⟨#[]⟩, .string ⟨#[]⟩, .slice none 0 0, .slice none 0 0, .slice none 0 0, .slice none 0 0, .slice none 0 0, .slice none 0 0, .slice none 0 0, .slice none 0 0, .int .i64 0, .slice none 0 0, .bool false]) := by kernel_rfl
theorem Z2e : zeroOf Tryz.prog 94 = some (.agg #[.int .i64 0, .string ⟨#[]⟩, .int .i64 0]) := by kernel_rfl
theorem Z4p : zeroOf Tryz.prog 98 = some (.nilFunc) := by kernel_rfl
theorem ZfG : zeroOf Tryz.prog 3 = some (.int .i64 0) := by kernel_rfl
theorem Z4S : zeroOf Tryz.prog 59 = some (.agg #[]) := by kernel_rfl
theorem hmx : Tryz.prog.follows .mixedOrders = true := by kernel_rfl
end Go.Proofs.YtbedigkncjbggaaGreatDoor
namespace Go.Pz
open Go Go.Vc
abbrev w_OR : ByteArray := ⟨#[79, 82]⟩
abbrev Z57 : ByteArray := ⟨#[65, 78, 68]⟩
abbrev Z29 : ByteArray := ⟨#[78, 79, 84]⟩
abbrev w_IS : ByteArray := ⟨#[73, 83]⟩
abbrev Z3f : ByteArray := ⟨#[78, 85, 76, 76]⟩
abbrev Zfv : ByteArray := ⟨#[84, 82, 85, 69]⟩
abbrev Zdi : ByteArray := ⟨#[70, 65, 76, 83, 69]⟩
abbrev Z5I : ByteArray := ⟨#[67, 79, 85, 78, 84]⟩
abbrev Zbg : ByteArray := ⟨#[83, 85, 77]⟩
abbrev Zbc : ByteArray := ⟨#[77, 73, 78]⟩
abbrev Zbi : ByteArray := ⟨#[77, 65, 88]⟩
abbrev Z71 : ByteArray := ⟨#[84, 65, 66, 76, 69]⟩
abbrev Za7 : ByteArray := ⟨#[73, 78, 68, 69, 88]⟩
abbrev w_ON : ByteArray := ⟨#[79, 78]⟩
abbrev Z5K : ByteArray := ⟨#[85, 83, 73, 78, 71]⟩
abbrev ZbW : ByteArray := ⟨#[72, 65, 83, 72]⟩
abbrev Zbe : ByteArray := ⟨#[73, 78, 84]⟩
abbrev Z9w : ByteArray := ⟨#[66, 79, 79, 76]⟩
abbrev Z9H : ByteArray := ⟨#[84, 69, 88, 84]⟩
abbrev Z39 : ByteArray := ⟨#[80, 82, 73, 77, 65, 82, 89]⟩
abbrev Zbj : ByteArray := ⟨#[75, 69, 89]⟩
abbrev Z2W : ByteArray := ⟨#[85, 78, 73, 81, 85, 69]⟩
abbrev Z9K : ByteArray := ⟨#[73, 78, 84, 79]⟩
abbrev Z66 : ByteArray := ⟨#[86, 65, 76, 85, 69, 83]⟩
abbrev Z4D : ByteArray := ⟨#[70, 82, 79, 77]⟩
abbrev ZT : ByteArray := ⟨#[73, 78, 78, 69, 82]⟩
abbrev Z3G : ByteArray := ⟨#[74, 79, 73, 78]⟩
abbrev Z5J : ByteArray := ⟨#[87, 72, 69, 82, 69]⟩
abbrev Z4h : ByteArray := ⟨#[71, 82, 79, 85, 80]⟩
abbrev w_BY : ByteArray := ⟨#[66, 89]⟩
abbrev Z2J : ByteArray := ⟨#[79, 82, 68, 69, 82]⟩
abbrev Z1z : ByteArray := ⟨#[76, 73, 77, 73, 84]⟩
abbrev Z8G : ByteArray := ⟨#[65, 83, 67]⟩
abbrev Z5X : ByteArray := ⟨#[68, 69, 83, 67]⟩
abbrev w_AS : ByteArray := ⟨#[65, 83]⟩
abbrev Zbh : ByteArray := ⟨#[83, 69, 84]⟩
abbrev Z68 : ByteArray := ⟨#[67, 82, 69, 65, 84, 69]⟩
abbrev Z4Z : ByteArray := ⟨#[73, 78, 83, 69, 82, 84]⟩
abbrev Z4P : ByteArray := ⟨#[83, 69, 76, 69, 67, 84]⟩
abbrev Z4V : ByteArray := ⟨#[85, 80, 68, 65, 84, 69]⟩
abbrev Z52 : ByteArray := ⟨#[68, 69, 76, 69, 84, 69]⟩
abbrev Z7e : ByteArray := ⟨#[66, 69, 71, 73, 78]⟩
abbrev Z6c : ByteArray := ⟨#[67, 79, 77, 77, 73, 84]⟩
abbrev Z4w : ByteArray := ⟨#[82, 79, 76, 76, 66, 65, 67, 75]⟩
abbrev s_lp : ByteArray := ⟨#[40]⟩
abbrev s_rp : ByteArray := ⟨#[41]⟩
abbrev ZV : ByteArray := ⟨#[44]⟩
abbrev Z1I : ByteArray := ⟨#[59]⟩
abbrev Z2i : ByteArray := ⟨#[42]⟩
abbrev Zbz : ByteArray := ⟨#[43]⟩
abbrev Z3n : ByteArray := ⟨#[45]⟩
abbrev Za1 : ByteArray := ⟨#[47]⟩
abbrev ZdZ : ByteArray := ⟨#[37]⟩
abbrev s_eq : ByteArray := ⟨#[61]⟩
abbrev s_ne : ByteArray := ⟨#[60, 62]⟩
abbrev s_lt : ByteArray := ⟨#[60]⟩
abbrev s_le : ByteArray := ⟨#[60, 61]⟩
abbrev s_gt : ByteArray := ⟨#[62]⟩
abbrev s_ge : ByteArray := ⟨#[62, 61]⟩
abbrev Z6B : ByteArray := ⟨#[46]⟩
def sq (a b : ByteArray) : Bool := a.data.toList == b.data.toList
theorem Z5W (a b : ByteArray) : seq a b = sq a b := by unfold seq sq; rw [ByteArray.toList_eq, ByteArray.toList_eq]
abbrev Ps (α : Type) := List T3 → Option (α × List T3)
def isT (k : Int) (s : ByteArray) : List T3 → Bool
 | t :: _ => (t.k == k) && sq t.t s
 | [] => false
def skT (k : Int) (s : ByteArray) (ts : List T3) : List T3 := if isT k s ts then ts.tail else ts
def wantP (k : Int) (s : ByteArray) : Ps Unit := fun ts => if isT k s ts then some ((), ts.tail) else none
def takeP (k : Int) : Ps T3
 | t :: r => if t.k == k then some (t, r) else none
 | [] => none
def nameP : Ps ByteArray := fun ts => (takeP 2 ts).map fun z => (z.1.t, z.2)
def wordsP : List ByteArray → Ps Unit
 | [], ts => some ((), ts)
 | s :: ss, ts => (wantP 1 s ts).bind fun z => wordsP ss z.2
abbrev em : ByteArray := ⟨#[]⟩
abbrev nd (k : Int) (kids : List Ex) : Ex := .mk k 0 0 em em em 0 kids
abbrev lit (vk vn : Int) (vs : ByteArray) : Ex := .mk 1 vk vn vs em em 0 []
abbrev ex0 : Ex := .mk 0 0 0 em em em 0 []
def opOf (k : Int) : List (ByteArray × Int) → List T3 → Option Int
 | [], _ => none
 | (s, n) :: l, ts => if isT k s ts then some n else opOf k l ts
def chainG (part : Ps Ex) (k : Int) (ops : List (ByteArray × Int)) : Nat → Ex → Ps Ex
  | 0, x, ts => some (x, ts)
  | n + 1, x, ts => match opOf k ops ts with
    | none => some (x, ts)
    | some q => (part ts.tail).bind fun z => chainG part k ops n (nd q [x, z.1]) z.2
def chainP (part : Ps Ex) (k : Int) (ops : List (ByteArray × Int)) : Ps Ex := fun ts => (part ts).bind fun z => chainG part k ops z.2.length z.1 z.2
abbrev mulO : List (ByteArray × Int) := [(Z2i, 7), (Za1, 8), (ZdZ, 9)]
abbrev addO : List (ByteArray × Int) := [(Zbz, 5), (Z3n, 6)]
abbrev cmpO : List (ByteArray × Int) := [(s_eq, 10), (s_ne, 11), (s_lt, 12), (s_le, 13), (s_gt, 14), (s_ge, 15)]
def aggK (s : ByteArray) : Option Int := if sq s Z5I then some 20 else if sq s Zbg then some 21 else if sq s Zbc then some 22 else if sq s Zbi then some 23 else none
def kwP (e : Ps Ex) : Ps Ex := fun ts => (takeP 1 ts).bind fun z =>
  if sq z.1.t Zfv then some (lit 2 1 em, z.2)
  else if sq z.1.t Zdi then some (lit 2 0 em, z.2)
  else if sq z.1.t Z3f then some (lit 0 0 em, z.2)
  else match aggK z.1.t with
    | none => none
    | some q => (wantP 5 s_lp z.2).bind fun y =>
      if sq z.1.t Z5I && isT 5 Z2i y.2 then (wantP 5 s_rp y.2.tail).map fun v => (nd 20 [], v.2)
      else (e y.2).bind fun x => (wantP 5 s_rp x.2).map fun v => (nd q [x.1], v.2)
def atomP (e : Ps Ex) : Ps Ex
  | [] => none
  | t :: r =>
    if t.k == 3 then some (lit 1 t.n em, r)
    else if t.k == 4 then some (lit 3 0 t.t, r)
    else if t.k == 2 then (if isT 5 Z6B r then (nameP r.tail).map fun z => (.mk 2 0 0 em t.t z.1 0 [], z.2) else some (.mk 2 0 0 em em t.t 0 [], r))
    else if t.k == 1 then kwP e (t :: r)
    else (wantP 5 s_lp (t :: r)).bind fun y => (e y.2).bind fun x => (wantP 5 s_rp x.2).map fun v => (x.1, v.2)
def factorP (e : Ps Ex) : Ps Ex
 | [] => atomP e []
 | t :: r => if isT 5 Z3n (t :: r) then (factorP e r).map fun z => (nd 3 [z.1], z.2) else atomP e (t :: r)
def prodP (e : Ps Ex) : Ps Ex := chainP (factorP e) 5 mulO
def sumP (e : Ps Ex) : Ps Ex := chainP (prodP e) 5 addO
def cmpP (e : Ps Ex) (x : Ex) : Ps Ex := fun ts => match opOf 5 cmpO ts with
  | some q => (sumP e ts.tail).map fun z => (nd q [x, z.1], z.2)
  | none => if isT 1 w_IS ts then (if isT 1 Z29 ts.tail then (wantP 1 Z3f ts.tail.tail).map fun v => (nd 19 [x], v.2) else (wantP 1 Z3f ts.tail).map fun v => (nd 18 [x], v.2)) else some (x, ts)
def notP (e : Ps Ex) : Ps Ex
 | [] => (sumP e []).bind fun z => cmpP e z.1 z.2
 | t :: r => if isT 1 Z29 (t :: r) then (notP e r).map fun z => (nd 4 [z.1], z.2) else (sumP e (t :: r)).bind fun z => cmpP e z.1 z.2
def andP (e : Ps Ex) : Ps Ex := chainP (notP e) 1 [(Z57, 16)]
def orP (e : Ps Ex) : Ps Ex := chainP (andP e) 1 [(w_OR, 17)]
def exprP : Nat → Ps Ex
 | 0 => fun _ => none
 | n + 1 => orP (exprP n)
def exprX : Ps Ex := fun ts => exprP (ts.length + 1) ts
def listG {α : Type} (part : Ps α) : Nat → Ps (List α)
 | 0, ts => some ([], ts)
 | n + 1, ts => if isT 5 ZV ts then (part ts.tail).bind fun z => (listG part n z.2).map fun y => (z.1 :: y.1, y.2) else some ([], ts)
def listP {α : Type} (most : Nat) (part : Ps α) : Ps (List α) := fun ts => (part ts).bind fun z => (listG part z.2.length z.2).bind fun y => if y.1.length + 1 ≤ most then some (z.1 :: y.1, y.2) else none
def withinP {α : Type} (part : Ps α) : Ps (List α) := fun ts => (wantP 5 s_lp ts).bind fun a => (listP 16 part a.2).bind fun l => (wantP 5 s_rp l.2).map fun v => (l.1, v.2)
structure Col where
  nm : ByteArray
  ty : Int
  nn : Bool
  un : Bool
structure Src where
  tb : ByteArray
  nm : ByteArray
  on : List Ex
structure Itm where
  all : Bool
  ex : Ex
structure Ky where
  ex : Ex
  desc : Bool
structure St where
  kind : Int
  tb : ByteArray
  nm : ByteArray
  cols : List Col
  names : List ByteArray
  rows : List (List Ex)
  items : List Itm
  from_ : List Src
  where_ : List Ex
  group : List Ex
  order : List Ky
  limit : Int
  sets : List Ex
  hash : Bool
def st0 : St := ⟨0, em, em, [], [], [], [], [], [], [], [], 0, [], false⟩
def stK (k : Int) : St := ⟨k, em, em, [], [], [], [], [], [], [], [], -1, [], false⟩
def typeP : Ps Int := fun ts => if isT 1 Zbe ts then some (1, ts.tail) else if isT 1 Z9w ts then some (2, ts.tail) else if isT 1 Z9H ts then some (3, ts.tail) else none
def colEnd (n : ByteArray) (t : Int) (nn : Bool) : Ps Col := fun ts =>
 if isT 1 Z39 ts then (wantP 1 Zbj ts.tail).map fun v => (⟨n, t, true, true⟩, v.2) else some (⟨n, t, nn, isT 1 Z2W ts⟩, skT 1 Z2W ts)
def colP : Ps Col := fun ts => (nameP ts).bind fun n => (typeP n.2).bind fun t =>
 if isT 1 Z29 t.2 then (wantP 1 Z3f t.2.tail).bind fun v => colEnd n.1 t.1 true v.2 else colEnd n.1 t.1 false t.2
def createP : Ps St := fun ts =>
  if isT 1 Z71 ts then (nameP ts.tail).bind fun n => (withinP colP n.2).map fun c => ({ stK 1 with tb := n.1, cols := c.1 }, c.2)
  else (wantP 1 Za7 ts).bind fun a => (nameP a.2).bind fun n => (wantP 1 w_ON n.2).bind fun b => (nameP b.2).bind fun t => (wantP 5 s_lp t.2).bind fun c => (nameP c.2).bind fun m => (wantP 5 s_rp m.2).bind fun d =>
    if isT 1 Z5K d.2 then (wantP 1 ZbW d.2.tail).map fun v => ({ stK 2 with nm := n.1, tb := t.1, names := [m.1], hash := true }, v.2)
    else some ({ stK 2 with nm := n.1, tb := t.1, names := [m.1] }, d.2)
def isLp : List T3 → Bool
 | t :: _ => (t.k == 5) && (sq t.t s_lp && (t.n == 0))
 | [] => false
def insRows (e : Ps Ex) (tb : ByteArray) (ns : List ByteArray) : Ps St := fun ts => (wantP 1 Z66 ts).bind fun a => (listP 32 (withinP e) a.2).map fun r => ({ stK 3 with tb := tb, names := ns, rows := r.1 }, r.2)
def insertP (e : Ps Ex) : Ps St := fun ts => (wantP 1 Z9K ts).bind fun a => (nameP a.2).bind fun n =>
 if isLp n.2 then (withinP nameP n.2).bind fun l => insRows e n.1 l.1 l.2 else insRows e n.1 [] n.2
def itemP (e : Ps Ex) : Ps Itm := fun ts => if isT 5 Z2i ts then some (⟨true, ex0⟩, ts.tail) else (e ts).map fun z => (⟨false, z.1⟩, z.2)
def isK (k : Int) : List T3 → Bool
 | t :: _ => t.k == k
 | [] => false
def sourceP : Ps Src := fun ts => (nameP ts).bind fun n =>
 if isT 1 w_AS n.2 then (nameP n.2.tail).map fun m => (⟨n.1, m.1, []⟩, m.2)
 else if isK 2 n.2 then (nameP n.2).map fun m => (⟨n.1, m.1, []⟩, m.2) else some (⟨n.1, n.1, []⟩, n.2)
def keyP (e : Ps Ex) : Ps Ky := fun ts => (e ts).map fun z => if isT 1 Z8G z.2 then (⟨z.1, false⟩, z.2.tail) else (⟨z.1, isT 1 Z5X z.2⟩, skT 1 Z5X z.2)
def whereP (e : Ps Ex) : Ps (List Ex) := fun ts => if isT 1 Z5J ts then (e ts.tail).map fun z => ([z.1], z.2) else some ([], ts)
def joinP (e : Ps Ex) : Ps Src := fun ts => (wantP 1 Z3G ts).bind fun a => (sourceP a.2).bind fun s => (wantP 1 w_ON s.2).bind fun b => (e b.2).map fun x => ({ s.1 with on := [x.1] }, x.2)
def joinsG (e : Ps Ex) : Nat → Ps (List Src)
 | 0, ts => some ([], ts)
 | n + 1, ts => if isT 1 ZT ts || isT 1 Z3G ts then (joinP e (skT 1 ZT ts)).bind fun s => (joinsG e n s.2).map fun y => (s.1 :: y.1, y.2) else some ([], ts)
def groupP (e : Ps Ex) : Ps (List Ex) := fun ts => if isT 1 Z4h ts then (wantP 1 w_BY ts.tail).bind fun a => listP 16 e a.2 else some ([], ts)
def orderP (e : Ps Ex) : Ps (List Ky) := fun ts => if isT 1 Z2J ts then (wantP 1 w_BY ts.tail).bind fun a => listP 16 (keyP e) a.2 else some ([], ts)
def limitP : Ps Int := fun ts => if isT 1 Z1z ts then (takeP 3 ts.tail).map fun z => (z.1.n, z.2) else some (-1, ts)
def queryP (e : Ps Ex) : Ps St := fun ts => (listP 16 (itemP e) ts).bind fun i => (wantP 1 Z4D i.2).bind fun a => (sourceP a.2).bind fun s => (joinsG e s.2.length s.2).bind fun j =>
 if j.1.length + 1 ≤ 4 then (whereP e j.2).bind fun w => (groupP e w.2).bind fun g => (orderP e g.2).bind fun o => (limitP o.2).map fun l =>
  ({ stK 4 with items := i.1, from_ := s.1 :: j.1, where_ := w.1, group := g.1, order := o.1, limit := l.1 }, l.2)
 else none
def setP (e : Ps Ex) : Ps (ByteArray × Ex) := fun ts => (nameP ts).bind fun n => (wantP 5 s_eq n.2).bind fun a => (e a.2).map fun x => ((n.1, x.1), x.2)
def updateP (e : Ps Ex) : Ps St := fun ts => (nameP ts).bind fun n => (wantP 1 Zbh n.2).bind fun a => (listP 16 (setP e) a.2).bind fun l => (whereP e l.2).map fun w =>
 ({ stK 5 with tb := n.1, names := l.1.map (·.1), sets := l.1.map (·.2), where_ := w.1 }, w.2)
def removeP (e : Ps Ex) : Ps St := fun ts => (wantP 1 Z4D ts).bind fun a => (nameP a.2).bind fun n => (whereP e n.2).map fun w => ({ stK 6 with tb := n.1, where_ := w.1 }, w.2)
def stmtP (e : Ps Ex) : Ps St := fun ts => (takeP 1 ts).bind fun w =>
 if sq w.1.t Z68 then createP w.2 else if sq w.1.t Z4Z then insertP e w.2 else if sq w.1.t Z4P then queryP e w.2
 else if sq w.1.t Z4V then updateP e w.2 else if sq w.1.t Z52 then removeP e w.2
 else if sq w.1.t Z7e then some (stK 7, w.2) else if sq w.1.t Z6c then some (stK 8, w.2) else if sq w.1.t Z4w then some (stK 9, w.2) else none
mutual
def hgt : Ex → Nat
 | .mk _ _ _ _ _ _ _ kids => hgts kids + 1
def hgts : List Ex → Nat
 | [] => 0
 | x :: xs => max (hgt x) (hgts xs)
end
def exsOf (s : St) : List Ex := s.rows.flatten ++ s.items.map (·.ex) ++ (s.from_.map (·.on)).flatten ++ s.order.map (·.ex) ++ s.where_ ++ s.group ++ s.sets
def deepS (s : St) : Bool := (exsOf s).any fun x => decide (32 < hgt x)
def wholeP (ts : List T3) : Option St := (stmtP (exprP (ts.length + 1)) ts).bind fun z => match skT 5 Z1I z.2 with | [] => some z.1 | _ :: _ => none
def readT (ts : List T3) : St × Int := match wholeP ts with
  | none => (st0, 30)
  | some s => if deepS s then (st0, 31) else (s, 0)
def readS (l : List T3 × Int) : St × Int := if l.2 == 0 then readT l.1 else (st0, l.2)
end Go.Pz
namespace Go.Pz
open Go Go.Vc
def Lt (r ts : List T3) : Prop := r <:+ ts ∧ r.length < ts.length
theorem Lt.trans {a b c : List T3} (h : Lt a b) (k : b <:+ c) : Lt a c := ⟨h.1.trans k, Nat.lt_of_lt_of_le h.2 k.length_le⟩
theorem Lt.trans' {a b c : List T3} (h : a <:+ b) (k : Lt b c) : Lt a c := ⟨h.trans k.1, Nat.lt_of_le_of_lt h.length_le k.2⟩
theorem Lt.cons (t : T3) (r : List T3) : Lt r (t :: r) := ⟨List.suffix_cons t r, by simp⟩
def Dn {α : Type} (p : Ps α) : Prop := ∀ ts z, p ts = some z → Lt z.2 ts
def Dn0 {α : Type} (p : Ps α) : Prop := ∀ ts z, p ts = some z → z.2 <:+ ts
theorem Dn.le {α : Type} {p : Ps α} (h : Dn p) : Dn0 p := fun ts z e => (h ts z e).1
theorem Z53 {k : Int} {s : ByteArray} {ts : List T3} (h : isT k s ts = true) : ∃ t r, ts = t :: r ∧ t.k = k ∧ t.t.data.toList = s.data.toList := by
  cases ts with
  | nil => cases h
  | cons t r => 
    simp only [isT, Bool.and_eq_true, beq_iff_eq, sq] at h
    exact ⟨t, r, rfl, h.1, h.2⟩
theorem Zr {k : Int} {s : ByteArray} {ts : List T3} (h : isT k s ts = true) : Lt ts.tail ts := by
 obtain ⟨t, r, rfl, _⟩ := Z53 h
 exact Lt.cons t r
theorem Z3H (k : Int) (s : ByteArray) (ts : List T3) : skT k s ts <:+ ts := by
 unfold skT; split
 · exact List.tail_suffix ts
 · exact List.suffix_refl ts
theorem Zh (k : Int) (s : ByteArray) : Dn (wantP k s) := fun ts z h => by
 unfold wantP at h
 split at h
 · rename_i hi; injection h with h; subst h; exact Zr hi
 · cases h
theorem ZP (k : Int) : Dn (takeP k) := fun ts z h => by
  cases ts with
  | nil => cases h
  | cons t r =>
    rw [takeP] at h
    split at h
    · injection h with h; subst h; exact Lt.cons t r
    · cases h
theorem Dn.map {α β : Type} {p : Ps α} (hp : Dn p) (f : α × List T3 → β) : Dn (fun ts => (p ts).map fun z => (f z, z.2)) := fun ts z h => by
 obtain ⟨y, hy, rfl⟩ := Option.map_eq_some_iff.1 h
 exact hp ts y hy
theorem ZE : Dn nameP := (ZP 2).map _
theorem bnd {α β : Type} {p : Option α} {f : α → Option β} {z : β} (h : p.bind f = some z) : ∃ y, p = some y ∧ f y = some z := Option.bind_eq_some_iff.1 h
theorem mpd {α β : Type} {p : Option α} {f : α → β} {z : β} (h : p.map f = some z) : ∃ y, p = some y ∧ f y = z := Option.map_eq_some_iff.1 h
theorem Z3I {k : Int} {q : Int} : ∀ {l : List (ByteArray × Int)} {ts : List T3}, opOf k l ts = some q → Lt ts.tail ts
  | [], _, h => by cases h
  | (s, n) :: l, ts, h => by
    unfold opOf at h
    split at h
    · rename_i hi; exact Zr hi
    · exact Z3I h
theorem ZaO {part : Ps Ex} {k : Int} {ops : List (ByteArray × Int)} (hp : Dn0 part) : ∀ (n : Nat) (x : Ex), Dn0 (chainG part k ops n x)
  | 0, x, ts, z, h => by unfold chainG at h; injection h with h; subst h; exact List.suffix_refl ts
  | n + 1, x, ts, z, h => by
    unfold chainG at h
    split at h
    · injection h with h; subst h; exact List.suffix_refl ts
    · rename_i q hq
      obtain ⟨y, h1, h2⟩ := bnd h
      exact ((ZaO hp n _ _ _ h2).trans (hp _ _ h1)).trans (Z3I hq).1
theorem Z6z {part : Ps Ex} {k : Int} {ops : List (ByteArray × Int)} (hp : Dn part) : Dn (chainP part k ops) := fun ts z h => by
 obtain ⟨y, h1, h2⟩ := bnd h
 exact Lt.trans' (ZaO hp.le _ _ _ _ h2) (hp _ _ h1)
theorem Zit {e : Ps Ex} (he : Dn0 e) : Dn (kwP e) := fun ts z h => by
  obtain ⟨y, h1, h2⟩ := bnd h
  have h3 := ZP 1 _ _ h1
  split at h2
  · injection h2 with h2; subst h2; exact h3
  · split at h2
    · injection h2 with h2; subst h2; exact h3
    · split at h2
      · injection h2 with h2; subst h2; exact h3
      · split at h2
        · cases h2
        · obtain ⟨u, h4, h5⟩ := bnd h2
          have h6 := Lt.trans (Zh _ _ _ _ h4) h3.1
          split at h5
          · rename_i hi
            simp only [Bool.and_eq_true] at hi
            obtain ⟨v, h7, rfl⟩ := mpd h5
            exact Lt.trans (Zh _ _ _ _ h7) ((Zr hi.2).1.trans h6.1)
          · obtain ⟨v, h7, h8⟩ := bnd h5
            obtain ⟨v', h9, rfl⟩ := mpd h8
            exact Lt.trans (Zh _ _ _ _ h9) ((he _ _ h7).trans h6.1)
theorem Zc9 {e : Ps Ex} (he : Dn0 e) : Dn (atomP e) := fun ts z h => by
  cases ts with
  | nil => cases h
  | cons t r =>
    rw [atomP] at h
    split at h
    · injection h with h; subst h; exact Lt.cons t r
    · split at h
      · injection h with h; subst h; exact Lt.cons t r
      · split at h
        · split at h
          · rename_i hi
            obtain ⟨v, h7, rfl⟩ := mpd h
            exact Lt.trans (ZE _ _ h7) ((Zr hi).1.trans (Lt.cons t r).1)
          · injection h with h; subst h; exact Lt.cons t r
        · split at h
          · exact Zit he _ _ h
          · obtain ⟨u, h4, h5⟩ := bnd h
            obtain ⟨v, h7, h8⟩ := bnd h5
            obtain ⟨v', h9, rfl⟩ := mpd h8
            exact Lt.trans (Zh _ _ _ _ h9) ((he _ _ h7).trans (Zh _ _ _ _ h4).1)
theorem Z5B {e : Ps Ex} (he : Dn0 e) : Dn (factorP e)
  | [], z, h => by rw [factorP] at h; exact Zc9 he _ _ h
  | t :: r, z, h => by
    rw [factorP] at h
    split at h
    · obtain ⟨v, h7, rfl⟩ := mpd h
      exact Lt.trans (Z5B he r v h7) (Lt.cons t r).1
    · exact Zc9 he _ _ h
theorem Z9p {e : Ps Ex} (he : Dn0 e) : Dn (prodP e) := Z6z (Z5B he)
theorem Z34 {e : Ps Ex} (he : Dn0 e) : Dn (sumP e) := Z6z (Z9p he)
theorem Zdf {e : Ps Ex} (he : Dn0 e) (x : Ex) : Dn0 (cmpP e x) := fun ts z h => by
  unfold cmpP at h
  split at h
  · rename_i q hq
    obtain ⟨v, h7, rfl⟩ := mpd h
    exact (Z34 he _ _ h7).1.trans (Z3I hq).1
  · split at h
    · rename_i hi
      split at h
      · rename_i hj
        obtain ⟨v, h7, rfl⟩ := mpd h
        exact ((Zh _ _ _ _ h7).1.trans (Zr hj).1).trans (Zr hi).1
      · obtain ⟨v, h7, rfl⟩ := mpd h
        exact (Zh _ _ _ _ h7).1.trans (Zr hi).1
    · injection h with h; subst h; exact List.suffix_refl ts
theorem Z8A {e : Ps Ex} (he : Dn0 e) : Dn (notP e)
  | [], z, h => by
    rw [notP] at h
    obtain ⟨y, h1, h2⟩ := bnd h
    exact Lt.trans' (Zdf he _ _ _ h2) (Z34 he _ _ h1)
  | t :: r, z, h => by
    rw [notP] at h
    split at h
    · obtain ⟨v, h7, rfl⟩ := mpd h
      exact Lt.trans (Z8A he r v h7) (Lt.cons t r).1
    · obtain ⟨y, h1, h2⟩ := bnd h
      exact Lt.trans' (Zdf he _ _ _ h2) (Z34 he _ _ h1)
theorem Zap {e : Ps Ex} (he : Dn0 e) : Dn (andP e) := Z6z (Z8A he)
theorem Zix {e : Ps Ex} (he : Dn0 e) : Dn (orP e) := Z6z (Zap he)
theorem Z2p : ∀ n, Dn (exprP n)
 | 0, ts, z, h => by cases h
 | n + 1, ts, z, h => Zix (Z2p n).le ts z h
def Eq_ (n : Nat) (e e' : Ps Ex) : Prop := ∀ ts, ts.length < n → e ts = e' ts
theorem Z1W {α β : Type} {p : Option α} {f g : α → Option β} (h : ∀ y, p = some y → f y = g y) : p.bind f = p.bind g := by
 cases p with
 | none => rfl
 | some y => exact h y rfl
section
variable {e e' : Ps Ex} {N : Nat} (h : Eq_ N e e')
include h
end
end Go.Pz
namespace Go.Proofs.YtbedigkncjbggaaGreatDoor
open Go Go.Vc Go.Pz
structure Tk where
  ts : List T3
  bb : Nat
  o : Nat
  cap : Nat
variable (T : Tk)
abbrev Tk.k (ts : List T3) : Nat := T.ts.length - ts.length
def Tk.j (ts : List T3) : Nat := if T.k ts = T.cap then T.k ts - 1 else T.k ts
abbrev Tk.G : World → Prop := RowG T3.cells 3 T.ts (some ⟨T.bb, T.o, none⟩) T.ts.length
abbrev Tk.sl (ts : List T3) : Value := .slice (some ⟨T.bb, T.o + 3 * T.j ts, none⟩) ts.length (T.cap - T.k ts)
abbrev PB (b : Nat) (ts : List T3) : Own := ⟨b, Z2l, .is (.agg #[T.sl ts])⟩
variable {T}
theorem Tk.j_eq {ts : List T3} (hc : T.ts.length ≤ T.cap) (hs : ts <:+ T.ts) (h : ts ≠ []) : T.j ts = T.k ts := by
 have := hs.length_le
 have : 0 < ts.length := List.length_pos_iff.2 h
 unfold Tk.j
 rw [if_neg (by show ¬ (T.ts.length - ts.length = T.cap); omega)]
theorem Tk.head {ts : List T3} (hs : ts <:+ T.ts) (h : ts ≠ []) : T.ts[T.k ts]? = some (ts.headD t3D) := by
  obtain ⟨us, e⟩ := hs
  cases ts with
  | nil => exact absurd rfl h
  | cons t r =>
    show T.ts[T.ts.length - (t :: r).length]? = some t
    rw [← e]; simp
theorem Tk.tail {ts : List T3} (hc : T.ts.length ≤ T.cap) (hs : ts <:+ T.ts) (h : ts ≠ []) : (Value.slice (adS (some ⟨T.bb, T.o + 3 * T.j ts, none⟩) 1 (T.cap - T.k ts) 3) (ts.length - 1) (T.cap - T.k ts - 1)) = T.sl ts.tail := by
  have h1 := hs.length_le
  have h2 : 0 < ts.length := List.length_pos_iff.2 h
  have h3 : ts.tail.length = ts.length - 1 := by simp
  rw [Tk.j_eq hc hs h]
  have h4 : T.k ts.tail = T.k ts + 1 := by unfold Tk.k; omega
  have h5 : T.j ts.tail = if T.cap - T.k ts = 1 then T.k ts else T.k ts + 1 := by
    unfold Tk.j
    rw [h4]
    by_cases hq : T.cap - T.k ts = 1
    · rw [if_pos hq, if_pos (by unfold Tk.k at *; omega)]; omega
    · rw [if_neg hq, if_neg (by unfold Tk.k at *; omega)]
  unfold Tk.sl
  rw [h5, h4, h3]
  by_cases hq : T.cap - T.k ts = 1
  · rw [if_pos hq]; unfold adS; rw [if_pos hq]; rfl
  · rw [if_neg hq]; unfold adS; rw [if_neg hq, Option.map_some, Z3w]
    congr 1
end Go.Proofs.YtbedigkncjbggaaGreatDoor
set_option maxRecDepth 20000
namespace Go.Proofs.YtbedigkncjbggaaGreatDoor
open Go Go.Vc
open Go.Pz
theorem Z6X {ts : List T3} (h : ((ts.length : Int) == 0) = false) : ts ≠ [] := fun e => by subst e; cases h
theorem Z2j {ts : List T3} (h : ts ≠ []) : (0 : Int) < ts.length := by have := List.length_pos_iff.2 h; omega
theorem Zeh {a b : Bool} (h : (a || b) = false) : a = false := by cases a <;> simp_all
theorem Zcm (k : Int) (s : ByteArray) (ts : List T3) : (((((ts.length : Nat) : Int) == 0) || ((ts.headD t3D).k != k)) || !(seq (ts.headD t3D).t s)) = !(isT k s ts) := by
  cases ts with
  | nil => rfl
  | cons t r =>
    rw [Z5W]
    have : ((((t :: r).length : Nat) : Int) == 0) = false := by rw [beq_eq_false_iff_ne]; simp; omega
    rw [this, Bool.false_or]
    show ((!(t.k == k)) || !(sq t.t s)) = !((t.k == k) && sq t.t s)
    rw [← Bool.not_and]
abbrev flt : List PanicEntry := [{ v := .iface Z7l (.agg #[]), recovered := false }]
theorem Z1C {k : Int} {s : ByteArray} {ts : List T3} (h : isT k s ts = true) : ts ≠ [] := fun e => by subst e; cases h
theorem Z37 (T : Tk) (hc : T.ts.length ≤ T.cap) (b : Nat) (ts : List T3) (hts : ts <:+ T.ts) (kd : Int) (s : ByteArray) : CallL Tryz.prog Z6Y [PB T b ts] [T.G] [.is (.pointer (some ⟨b, 0, none⟩)), .is (.int .i64 kd), .is (.string s)] (fun _ : Unit => True) (fun _ => [PB T b (skT kd s ts)]) (fun _ => .is (.bool (isT kd s ts))) :=
CallL.of (fn := Tryz.f65) Tryz.func65 (n := 43) rfl rfl rfl (fun _ _ => by kernel_rfl) fun E W hb0 => by
 repeat apply Sq
 apply Pn
 refine Jt (Z2 rfl) rfl ?_
 apply Ni
 repeat first | apply Nx | apply Nb
 refine Sl [0, 1, 2] (.cons rfl (.cons rfl (.cons rfl .nil))) ?_
 repeat apply Sq
 refine J.reg0 hmx (by kernel_rfl) (by kernel_rfl) ?_
 refine Rq (Z0 rfl) ?_
 refine Rq (Z5 rfl) ?_
 refine Rq (Z1 Zg rfl) ?_
 refine Rq (Z4 Zs rfl rfl) ?_
 refine Rq (Zq ZY rfl) ?_
 refine Rq (Z1e rfl rfl) ?_
 refine Rq (Z0 rfl) ?_
 refine Rg rfl rfl rfl (fun hg => Z0 (.inl rfl)) ?_
 refine Rg rfl rfl rfl (fun hg => Z5 (.inr ⟨_, rfl, id⟩)) ?_
 refine Rg rfl rfl rfl (fun hg => Z1 Zg (.inr ⟨_, rfl, id⟩)) ?_
 refine Rg rfl rfl rfl (fun hg => Z4 Zs (.inr ⟨_, rfl, id⟩) rfl) ?_
 refine Rg rfl rfl rfl (fun hg => Za ZX (.inr ⟨_, rfl, id⟩) rfl (.inl rfl) (by omega) (Z2j (Z6X hg))) ?_
 refine Rg rfl rfl rfl (fun hg => Z1 Z2B (.inr ⟨_, rfl, id⟩)) ?_
 refine Rg rfl rfl rfl (fun hg => ZI (enc := T3.cells) (sz := 3) (i := T.k ts) (j := 0) (y := ts.headD t3D) (u := .int .i64 (ts.headD t3D).k) ZA (.inr ⟨_, rfl, id⟩) (by repeat first | exact Mh | apply Mt) rfl (Tk.head hts (Z6X hg)) (by rw [Tk.j_eq hc hts (Z6X hg)]; omega) rfl) ?_
 refine Rg rfl rfl rfl (fun hg => Z0 (.inl rfl)) ?_
 refine Rg rfl rfl rfl (fun hg => Z1J (.inr ⟨_, rfl, id⟩) (.inr ⟨_, rfl, id⟩)) ?_
 refine Rq (ZM rfl rfl rfl id) ?_
 refine Rq (Z0 rfl) ?_
 refine Rg rfl rfl rfl (fun hg => Z0 (.inl rfl)) ?_
 refine Rg rfl rfl rfl (fun hg => Z5 (.inr ⟨_, rfl, id⟩)) ?_
 refine Rg rfl rfl rfl (fun hg => Z1 Zg (.inr ⟨_, rfl, id⟩)) ?_
 refine Rg rfl rfl rfl (fun hg => Z4 Zs (.inr ⟨_, rfl, id⟩) rfl) ?_
 refine Rg rfl rfl rfl (fun hg => Za ZX (.inr ⟨_, rfl, id⟩) rfl (.inl rfl) (by omega) (Z2j (Z6X (Zeh hg)))) ?_
 refine Rg rfl rfl rfl (fun hg => Z1 Z4Q (.inr ⟨_, rfl, id⟩)) ?_
 refine Rg rfl rfl rfl (fun hg => ZI (enc := T3.cells) (sz := 3) (i := T.k ts) (j := 1) (y := ts.headD t3D) (u := .string (ts.headD t3D).t) Zu (.inr ⟨_, rfl, id⟩) (by repeat first | exact Mh | apply Mt) rfl (Tk.head hts (Z6X (Zeh hg))) (by rw [Tk.j_eq hc hts (Z6X (Zeh hg))]; omega) rfl) ?_
 refine Rg rfl rfl rfl (fun hg => Z0 (.inl rfl)) ?_
 refine Rg rfl rfl rfl (fun hg => Z3J (.inr ⟨_, rfl, id⟩) (.inr ⟨_, rfl, id⟩)) ?_
 refine Rq (ZM rfl rfl rfl id) ?_
 apply Rn
 refine FinS.nil0 ?_
 repeat first | apply Nx | apply Nb
 refine Sl [0, 34] (.cons rfl (.cons rfl .nil)) ?_
 repeat apply Sq
 refine Cd rfl (fun ht34 => ?_) (fun ht34 => ?_)
 ·
  try simp only [dT, dF] at ht34
  have hT : isT kd s ts = false := by rw [Zcm] at ht34; simpa using ht34
  rw [show skT kd s ts = ts by unfold skT; rw [hT]; rfl]
  repeat apply Sq
  apply Pn
  refine Jt (Z2 rfl) rfl ?_
  apply Ni
  repeat first | apply Nx | apply Nb
  refine Sl [6] (.cons rfl .nil) ?_
  repeat apply Sq
  apply Rt
  repeat first | apply Rp | apply Rb
  exact JX.retL1 rfl () trivial (.refl _) rfl rfl hb0 rfl (Sub.isEq (by rw [hT]))
 ·
  try simp only [dT, dF] at ht34
  apply Sk
  repeat first | apply Nx | apply Nb
  have hT : isT kd s ts = true := by rw [Zcm] at ht34; simpa using ht34
  rw [show skT kd s ts = ts.tail by unfold skT; rw [hT]; rfl]
  repeat apply Sq
  apply Pn
  refine Jt (Z0 rfl) rfl ?_
  refine Jt (Z0 rfl) rfl ?_
  refine Jt (Z5 rfl) rfl ?_
  refine Jt (Z1 Zg rfl) rfl ?_
  refine Jt (Z4 Zs rfl rfl) rfl ?_
  refine Jt (Z5C ZY ZX rfl rfl (by omega) (by have := Z2j (Z1C hT); omega)) rfl ?_
  refine Jt (Z5 rfl) rfl ?_
  refine Jt (Z1 Zg rfl) rfl ?_
  refine JO.m (Zf (cs' := [_]) rfl rfl (by repeat first | exact .here | apply Ut) rfl rfl rfl rfl Z3v) (by rfl) ?_
  apply Ni
  repeat first | apply Nx | apply Nb
  refine Sl [] .nil ?_
  repeat apply Sq
  apply Pn
  refine Jt (Z2 rfl) rfl ?_
  apply Ni
  repeat first | apply Nx | apply Nb
  refine Sl [6] (.cons rfl .nil) ?_
  repeat apply Sq
  apply Rt
  repeat first | apply Rp | apply Rb
  refine JX.retL1 (Lr := []) rfl () trivial (.of_eq ?_) rfl rfl hb0 rfl (Sub.isEq (by rw [hT]))
  exact congrArg (fun v => [Own.mk b Z2l (.is (.agg #[v]))]) (Tk.tail hc hts (Z1C hT))
theorem Z9 (T : Tk) (hc : T.ts.length ≤ T.cap) (b : Nat) (ts : List T3) (hts : ts <:+ T.ts) (s : ByteArray) : CallL Tryz.prog Z70 [PB T b ts] [T.G] [.is (.pointer (some ⟨b, 0, none⟩)), .is (.string s)] (fun _ : Unit => True) (fun _ => [PB T b (skT 5 s ts)]) (fun _ => .is (.bool (isT 5 s ts))) :=
CallL.of (fn := Tryz.f27) Tryz.func27 (n := 8) rfl rfl rfl (fun _ _ => by kernel_rfl) fun E W hb0 => by
 repeat apply Sq
 apply Pn
 refine Jt (Z2 rfl) rfl ?_
 apply Ni
 repeat first | apply Nx | apply Nb
 refine Sl [0, 1] (.cons rfl (.cons rfl .nil)) ?_
 repeat apply Sq
 apply Pn
 refine Jt (Z0 rfl) rfl ?_
 refine Jt (Z0 rfl) rfl ?_
 refine JO.callK (Lr := []) (Z37 T hc b ts hts 5 s) rfl (.refl _) (Z6e (by repeat first | exact Mh | apply Mt)) (.one rfl (.one rfl (.one rfl .nil))) ?_
 intro z hz
 try dsimp only
 refine Jt (Z2 rfl) rfl ?_
 apply Ni
 repeat first | apply Nx | apply Nb
 refine Sl [4] (.cons rfl .nil) ?_
 repeat apply Sq
 apply Rt
 repeat first | apply Rp | apply Rb
 exact JX.retL1 rfl () trivial (.refl _) rfl rfl hb0 rfl (Sub.refl _)
theorem Zd (T : Tk) (hc : T.ts.length ≤ T.cap) (b : Nat) (ts : List T3) (hts : ts <:+ T.ts) (s : ByteArray) : CallL Tryz.prog Z77 [PB T b ts] [T.G] [.is (.pointer (some ⟨b, 0, none⟩)), .is (.string s)] (fun _ : Unit => True) (fun _ => [PB T b (skT 1 s ts)]) (fun _ => .is (.bool (isT 1 s ts))) :=
CallL.of (fn := Tryz.f104) Tryz.func104 (n := 8) rfl rfl rfl (fun _ _ => by kernel_rfl) fun E W hb0 => by
 repeat apply Sq
 apply Pn
 refine Jt (Z2 rfl) rfl ?_
 apply Ni
 repeat first | apply Nx | apply Nb
 refine Sl [0, 1] (.cons rfl (.cons rfl .nil)) ?_
 repeat apply Sq
 apply Pn
 refine Jt (Z0 rfl) rfl ?_
 refine Jt (Z0 rfl) rfl ?_
 refine JO.callK (Lr := []) (Z37 T hc b ts hts 1 s) rfl (.refl _) (Z6e (by repeat first | exact Mh | apply Mt)) (.one rfl (.one rfl (.one rfl .nil))) ?_
 intro z hz
 try dsimp only
 refine Jt (Z2 rfl) rfl ?_
 apply Ni
 repeat first | apply Nx | apply Nb
 refine Sl [4] (.cons rfl .nil) ?_
 repeat apply Sq
 apply Rt
 repeat first | apply Rp | apply Rb
 exact JX.retL1 rfl () trivial (.refl _) rfl rfl hb0 rfl (Sub.refl _)
theorem Z7 (pv : Value) (x : Bool) : CallP Tryz.prog Z79 [] [] [.is pv, .is (.bool x)] (x = false) flt (fun _ : Unit => x = true) (fun _ => []) (fun _ => .is (.tuple #[])) :=
CallP.of (fn := Tryz.f28) Tryz.func28 (n := 8) rfl rfl rfl (fun _ _ => by kernel_rfl) fun E W hb0 => by
 repeat apply Sq
 apply Pn
 refine Jt (Z0 rfl) rfl ?_
 refine Jt (Z3k rfl) rfl ?_
 apply Ni
 repeat first | apply Nx | apply Nb
 refine Sl [5] (.cons rfl .nil) ?_
 repeat apply Sq
 refine Cd rfl (fun ht5 => ?_) (fun ht5 => ?_)
 ·
  try simp only [dT, dF] at ht5
  repeat apply Sq
  apply Pn
  refine Jt (Zv (cs := []) Z7d .nil rfl rfl) rfl ?_
  refine Jt (ZbH (d := .struct #[]) (by kernel_rfl) rfl rfl) rfl ?_
  refine JO.pan rfl ?_
  exact JX.pnI (by simpa using ht5)
 ·
  try simp only [dT, dF] at ht5
  apply Sk
  refine JX.normal_ret ?_
  refine JX.toP ?_
  exact JX.retL0 rfl () (by simpa using ht5) (Z1a _) rfl hb0 rfl
end Go.Proofs.YtbedigkncjbggaaGreatDoor
set_option maxRecDepth 20000
namespace Go.Proofs.YtbedigkncjbggaaGreatDoor
open Go Go.Vc
open Go.Pz
theorem Z8x {k : Int} {ts : List T3} (h : isK k ts = true) : ts ≠ [] := fun e => by subst e; cases h
theorem Z67 (k : Int) (ts : List T3) : (decide ((0 : Int) < ((ts.length : Nat) : Int)) && ((ts.headD t3D).k == k)) = isK k ts := by
 cases ts with
 | nil => rfl
 | cons t r => rw [decide_eq_true (show (0 : Int) < (((t :: r).length : Nat) : Int) by simp)]; rfl
theorem Zav (k : Int) (ts : List T3) : takeP k ts = if isK k ts then some (ts.headD t3D, ts.tail) else none := by cases ts <;> rfl
theorem Z2r {ts : List T3} (h : decide ((0 : Int) < ((ts.length : Nat) : Int)) = true) : ts ≠ [] := fun e => by subst e; cases h
theorem Z1i (T : Tk) (hc : T.ts.length ≤ T.cap) (b : Nat) (ts : List T3) (hts : ts <:+ T.ts) (kd : Int) : CallP Tryz.prog Z7c [PB T b ts] [T.G] [.is (.pointer (some ⟨b, 0, none⟩)), .is (.int .i64 kd)] (takeP kd ts = none) flt (fun z : T3 × List T3 => takeP kd ts = some z) (fun z => [PB T b z.2]) (fun z => .is (tv z.1)) :=
CallP.of (fn := Tryz.f64) Tryz.func64 (n := 40) rfl rfl rfl (fun _ _ => by kernel_rfl) fun E W hb0 => by
 repeat apply Sq
 apply Pn
 refine JO.alloc Z2e rfl fun b4 => ?_
 apply Ni
 repeat first | apply Nx | apply Nb
 refine Sl [0, 1, 4] (.cons rfl (.cons rfl (.cons rfl .nil))) ?_
 repeat apply Sq
 refine J.regS 18 hmx (by kernel_rfl) (by kernel_rfl) ?_
 refine Rq (Z0 rfl) ?_
 refine Rq (Z0 rfl) ?_
 refine Rq (Z5 rfl) ?_
 refine Rq (Z1 Zg rfl) ?_
 refine Rq (Z4 Zs rfl rfl) ?_
 refine Rq (Zq ZY rfl) ?_
 refine Rq (Z2O rfl rfl) ?_
 refine Rq (Z0 rfl) ?_
 refine Rg rfl rfl rfl (fun hg => Z0 (.inl rfl)) ?_
 refine Rg rfl rfl rfl (fun hg => Z5 (.inr ⟨_, rfl, id⟩)) ?_
 refine Rg rfl rfl rfl (fun hg => Z1 Zg (.inr ⟨_, rfl, id⟩)) ?_
 refine Rg rfl rfl rfl (fun hg => Z4 Zs (.inr ⟨_, rfl, id⟩) rfl) ?_
 refine Rg rfl rfl rfl (fun hg => Za ZX (.inr ⟨_, rfl, id⟩) rfl (.inl rfl) (by omega) (Z2j (Z2r hg))) ?_
 refine Rg rfl rfl rfl (fun hg => Z1 Z2B (.inr ⟨_, rfl, id⟩)) ?_
 refine Rg rfl rfl rfl (fun hg => ZI (enc := T3.cells) (sz := 3) (i := T.k ts) (j := 0) (y := ts.headD t3D) (u := .int .i64 (ts.headD t3D).k) ZA (.inr ⟨_, rfl, id⟩) (by repeat first | exact Mh | apply Mt) rfl (Tk.head hts (Z2r hg)) (by rw [Tk.j_eq hc hts (Z2r hg)]; omega) rfl) ?_
 refine Rg rfl rfl rfl (fun hg => Z0 (.inl rfl)) ?_
 refine Rg rfl rfl rfl (fun hg => Z1e (.inr ⟨_, rfl, id⟩) (.inr ⟨_, rfl, id⟩)) ?_
 refine Rq (Zy rfl rfl rfl id) ?_
 apply Rn
 refine FinS.tail0 ?_
 refine JO.callPK (Lr := _) (Z7 (.pointer (some ⟨b, 0, none⟩)) _) rfl (Z1a _) Z10 (.one rfl (.one rfl .nil)) (fun hbad => ?_) ?_
 · exact JX.pnI (by rw [Zav, ← Z67, hbad]; rfl)
 intro z hz
 have hK : isK kd ts = true := by rw [← Z67]; exact hz
 try dsimp only [nA, cA]
 apply Ni
 repeat first | apply Nx | apply Nb
 refine Sl [0, 4] (.cons rfl (.cons rfl .nil)) ?_
 repeat apply Sq
 apply Pn
 refine Jt (Z0 rfl) rfl ?_
 refine Jt (Z5 rfl) rfl ?_
 refine Jt (Z1 Zg rfl) rfl ?_
 refine Jt (Z4 Zs rfl rfl) rfl ?_
 refine Jt (Za ZX rfl rfl rfl (by omega) (Z2j (Z8x hK))) rfl ?_
 refine Jt (Z3A (enc := T3.cells) (sz := 3) (i := T.k ts) (y := ts.headD t3D) (cs := T3.cells (ts.headD t3D)) ZW rfl (by repeat first | exact Mh | apply Mt) rfl (Tk.head hts (Z8x hK)) (by rw [Tk.j_eq hc hts (Z8x hK)]; rfl) rfl) rfl ?_
 refine JO.alloc Z2e rfl fun b5 => ?_
 refine JO.m (Z3 rfl rfl (by repeat first | exact .here | apply Ut) (by first | exact cI rfl rfl | exact cE) (by first | exact cI rfl rfl | exact cE | exact cO) Z17) (by rfl) ?_
 apply Ni
 repeat first | apply Nx | apply Nb
 refine Sl [0, 4, 5] (.cons rfl (.cons rfl (.cons rfl .nil))) ?_
 repeat apply Sq
 apply Pn
 refine Jt (Z0 rfl) rfl ?_
 refine Jt (Z0 rfl) rfl ?_
 refine Jt (Z5 rfl) rfl ?_
 refine Jt (Z1 Zg rfl) rfl ?_
 refine Jt (Z4 Zs rfl rfl) rfl ?_
 refine Jt (Z5C ZY ZX rfl rfl (by omega) (by have := Z2j (Z8x hK); omega)) rfl ?_
 refine Jt (Z5 rfl) rfl ?_
 refine Jt (Z1 Zg rfl) rfl ?_
 refine JO.m (Zf (cs' := [_]) rfl rfl (by repeat first | exact .here | apply Ut) rfl rfl rfl rfl Z3v) (by rfl) ?_
 apply Ni
 repeat first | apply Nx | apply Nb
 refine Sl [4, 5] (.cons rfl (.cons rfl .nil)) ?_
 repeat apply Sq
 apply Pn
 refine Jt (ZG (cs := [_, _, _]) ZW rfl rfl rfl) rfl ?_
 refine JO.m (Z3 rfl rfl (by repeat first | exact .here | apply Ut) (by first | exact cI rfl rfl | exact cE) (by first | exact cI rfl rfl | exact cE | exact cO) Z17) (by rfl) ?_
 apply Ni
 repeat first | apply Nx | apply Nb
 refine Sl [4] (.cons rfl .nil) ?_
 repeat apply Sq
 apply Rt
 repeat first | apply Rp | apply Rb
 refine JX.toP ?_
 exact JX.retLC (Lr := [_, _]) (L1 := fun z : T3 × List T3 => [PB T b z.2]) (R := fun z => .is (tv z.1)) rfl (ts.headD t3D, ts.tail) (by rw [Zav, hK]; rfl) (List.Perm.trans (List.perm_append_comm (l₁ := [_, _]) (l₂ := [_])) (.of_eq (congrArg (fun v => Own.mk b Z2l (.is (.agg #[v])) :: [_, _]) (Tk.tail hc hts (Z8x hK))))) rfl hb0 rfl ZW HasOwn.mem rfl rfl
theorem Zz (T : Tk) (hc : T.ts.length ≤ T.cap) (b : Nat) (ts : List T3) (hts : ts <:+ T.ts)  : CallP Tryz.prog Z4a [PB T b ts] [T.G] [.is (.pointer (some ⟨b, 0, none⟩))] (nameP ts = none) flt (fun z : ByteArray × List T3 => nameP ts = some z) (fun z => [PB T b z.2]) (fun z => .is (.string z.1)) :=
CallP.of (fn := Tryz.f105) Tryz.func105 (n := 6) rfl rfl rfl (fun _ _ => by kernel_rfl) fun E W hb0 => by
 repeat apply Sq
 apply Pn
 refine Jt (Z2 rfl) rfl ?_
 apply Ni
 repeat first | apply Nx | apply Nb
 refine Sl [0] (.cons rfl .nil) ?_
 repeat apply Sq
 apply Pn
 refine Jt (Z0 rfl) rfl ?_
 refine JO.callPK (Lr := []) (Z1i T hc b ts hts 2) rfl (.refl _) (Z6e (by repeat first | exact Mh | apply Mt)) (.one rfl (.one rfl .nil)) (fun hbad => ?_) ?_
 · exact JX.pnI (by unfold nameP; rw [hbad]; rfl)
 intro z hz
 try dsimp only [nA, cA]
 refine Jt (Z3B (off := 1) (by kernel_rfl) rfl rfl) rfl ?_
 refine Jt (Z2 rfl) rfl ?_
 apply Ni
 repeat first | apply Nx | apply Nb
 refine Sl [2] (.cons rfl .nil) ?_
 repeat apply Sq
 apply Rt
 repeat first | apply Rp | apply Rb
 refine JX.toP ?_
 exact JX.retL1 (L1 := fun z : ByteArray × List T3 => [PB T b z.2]) (R := fun z => .is (.string z.1)) rfl (z.1.t, z.2) (by unfold nameP; rw [hz]; rfl) (.refl _) rfl rfl hb0 rfl (Sub.refl _)
end Go.Proofs.YtbedigkncjbggaaGreatDoor
set_option maxRecDepth 20000
namespace Go.Proofs.YtbedigkncjbggaaGreatDoor
open Go Go.Vc
open Go.Pz
theorem Sub.leaf {L : List Own} {Φ : List (World → Prop)} {k vk vn : Int} {vs tb nm : ByteArray} {sl : Int} : Sub L Φ (.is (.agg (exCells k vk vn vs tb nm sl none 0 0).toArray)) (.rep (ExR (.mk k vk vn vs tb nm sl []))) := fun E v w hf e => by
 rw [show v = _ from e]
 exact fun w' _ => ZbS
theorem Z2g (k : Int) (kids : List Ex) : CallTy Tryz.prog ZbI [.is (.int .i64 k), .rep (ExsR kids)] (.rep (ExR (nd k kids))) :=
 CallTy.of (fn := Tryz.f164) Tryz.func164 (n := 8) rfl rfl rfl (fun _ _ => by kernel_rfl) fun E W => by
 refine J.openExs (s := 1) rfl (fun a len cap b0 o0 hl ha => ?_)
 repeat apply Sq
 apply Pn
 refine JO.alloc Z16 rfl fun b4 => ?_
 apply Ni
 repeat first | apply Nx | apply Nb
 refine Sl [0, 1, 4] (.cons rfl (.cons rfl (.cons rfl .nil))) ?_
 repeat apply Sq
 apply Pn
 refine Jt (Z0 rfl) rfl ?_
 refine Jt (Z0 rfl) rfl ?_
 refine Jt (Zv (cs := [_, _, _, _, _, _, _, _]) Z56 (.cons rfl (.cons rfl .nil)) rfl rfl) rfl ?_
 refine JO.m (Z3 rfl rfl (by repeat first | exact .here | apply Ut) (by first | exact cI rfl rfl | exact cE) (by first | exact cI rfl rfl | exact cE | exact cO) Zo) (by rfl) ?_
 apply Ni
 repeat first | apply Nx | apply Nb
 refine Sl [4] (.cons rfl .nil) ?_
 repeat apply Sq
 apply Rt
 repeat first | apply Rp | apply Rb
 exact JX.retCsub rfl rfl Ze HasOwn.mem rfl rfl (Sub.exMk List.mem_cons_self)
theorem Z2Q (vk vn : Int) (vs : ByteArray) : CallTy Tryz.prog Z9E [.is (.agg #[.int .i64 vk, .int .i64 vn, .string vs])] (.rep (ExR (lit vk vn vs))) :=
 CallTy.of (fn := Tryz.f193) Tryz.func193 (n := 5) rfl rfl rfl (fun _ _ => by kernel_rfl) fun E W => by
 repeat apply Sq
 apply Pn
 refine JO.box rfl rfl fun b1 => ?_
 refine JO.alloc Z16 rfl fun b2 => ?_
 apply Ni
 repeat first | apply Nx | apply Nb
 refine Sl [1, 2] (.cons rfl (.cons rfl .nil)) ?_
 repeat apply Sq
 apply Pn
 refine Jt (ZG (cs := [_, _, _]) Z5U rfl rfl rfl) rfl ?_
 refine Jt (Zv (cs := [_, _, _, _, _, _, _, _]) Z56 (.cons rfl (.cons rfl .nil)) rfl rfl) rfl ?_
 refine JO.m (Z3 rfl rfl (by repeat first | exact .here | apply Ut) (by first | exact cI rfl rfl | exact cE) (by first | exact cI rfl rfl | exact cE | exact cO) Zo) (by rfl) ?_
 apply Ni
 repeat first | apply Nx | apply Nb
 refine Sl [2] (.cons rfl .nil) ?_
 repeat apply Sq
 apply Rt
 repeat first | apply Rp | apply Rb
 exact JX.retCsub rfl rfl Ze HasOwn.mem rfl rfl Sub.leaf
end Go.Proofs.YtbedigkncjbggaaGreatDoor
