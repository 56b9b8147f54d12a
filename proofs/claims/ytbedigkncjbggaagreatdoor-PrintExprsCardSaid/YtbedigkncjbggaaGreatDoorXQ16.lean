/- awake of the printer; what is printed is read. No condition. -/
import Derived.Test.YtbedigkncjbggaaGreatDoorXQ15
import Derived.Test.YtbedigkncjbggaaGreatDoorXQ2
import Derived.Test.YtbedigkncjbggaaGreatDoorRows
import Derived.Deep.DeepHandedRow
import Derived.Deep.DeepWitnessRowRef
import Derived.Lib.LaidCaseMet
import Derived.Lib.LaidIn
import Derived.PinnedBridge
import Derived.ProofKit
import Derived.Test.YtbedigkncjbggaaGreatDoorXG1
import Derived.Stop.LaidErr
import Derived.Lib.LaidTab
import Derived.Lib.SmallJoins
import Derived.Shelf.Vars
import Derived.JoinedCond
import Derived.ChangeMaps5
import Derived.Test.YtbedigkncjbggaaGreatDoorCards
import Derived.Test.YtbedigkncjbggaaGreatDoorTie
import Derived.Test.YtbedigkncjbggaaGreatDoorXQ4
import Derived.Test.YtbedigkncjbggaaGreatDoorXQ1
set_option maxRecDepth 20000
namespace Go.Proofs.YtbedigkncjbggaaGreatDoor
open Go Go.Vc
open Go.Pz
theorem sz3 {a b : ByteArray} (ha : a.data.toList.length ≤ 4000000000000000000) (hb : b.data.toList.length ≤ 4000000000000000000) : a.size + b.size ≤ 9223372036854775807 := by
 rw [← Z1k, ← Z1k]; omega
theorem Zii {nk : ByteArray → Prop} {s : Pz.St} (h : WfS nk s) : 1 ≤ s.kind ∧ s.kind ≤ 9 := by
 cases h with
 | @tab => exact ⟨by show (1 : Int) ≤ 1; decide, by show (1 : Int) ≤ 9; decide⟩
 | @idx => exact ⟨by show (1 : Int) ≤ 2; decide, by show (2 : Int) ≤ 9; decide⟩
 | @ins => exact ⟨by show (1 : Int) ≤ 3; decide, by show (3 : Int) ≤ 9; decide⟩
 | @sel => exact ⟨by show (1 : Int) ≤ 4; decide, by show (4 : Int) ≤ 9; decide⟩
 | @upd => exact ⟨by show (1 : Int) ≤ 5; decide, by show (5 : Int) ≤ 9; decide⟩
 | @del => exact ⟨by show (1 : Int) ≤ 6; decide, by show (6 : Int) ≤ 9; decide⟩
 | @pl k h => rcases h with rfl|rfl|rfl <;> exact ⟨by show (1 : Int) ≤ _; decide, by show (_ : Int) ≤ 9; decide⟩
theorem ZbM {l : List UInt8} (h : (prS l).2 = 0) : GoodS (prS l).1 ∧ (1 ≤ (prS l).1.kind ∧ (prS l).1.kind ≤ 9) := ⟨Zjc (Z9G h).1 (Zgl l).2, Zii (Z9G h).1⟩
abbrev pw1 : List UInt8 := [115, 101, 108, 101, 99, 116, 32, 97, 43, 98, 42, 50, 44, 99, 111, 117, 110, 116, 40, 42, 41, 32, 102, 114, 111, 109, 32, 116, 32, 120, 32, 119, 104, 101, 114, 101, 32, 110, 111, 116, 32, 97, 61, 49, 32, 111, 114, 100, 101, 114, 32, 98, 121, 32, 97, 32, 100, 101, 115, 99]
abbrev pw2 : List UInt8 := [83, 69, 76, 69, 67, 84, 32, 97, 32, 43, 32, 40, 98, 32, 42, 32, 50, 41, 44, 32, 67, 79, 85, 78, 84, 40, 42, 41, 32, 70, 82, 79, 77, 32, 116, 32, 65, 83, 32, 120, 32, 87, 72, 69, 82, 69, 32, 78, 79, 84, 32, 40, 97, 32, 61, 32, 49, 41, 32, 79, 82, 68, 69, 82, 32, 66, 89, 32, 97, 32, 68, 69, 83, 67]
theorem ZjA : ((prS pw1).2 == 0 && (txS (prS pw1).1 == pw2)) = true := by decide +kernel
theorem Zhe : ∃ S0 : Pz.St, GoodS S0 ∧ (1 ≤ S0.kind ∧ S0.kind ≤ 9) ∧ txS S0 = pw2 ∧ CallF Tryz.prog Z4G [NH 0, GF, AF] [.is (.string (bl pw1))] (.tup2 (.rep (StR 0 S0)) (.is (.int .i64 0))) := by
 have h := ZjA
 simp only [Bool.and_eq_true, beq_iff_eq] at h
 have hg := ZbM h.1
 have hc := c_PL 0 pw1
 rw [h.1] at hc
 exact ⟨_, hg.1, hg.2, h.2, hc⟩
theorem Zcn  : CallF Tryz.prog Zcg [NH 0, GF, AF, TF] [] (.is (.bool true)) :=
CallF.of (fn := Tryz.f19) Tryz.func19 (n := 14) rfl rfl rfl (fun _ _ => by kernel_rfl) fun E W => by
 obtain ⟨S0, hgS, hk9, htx, hP⟩ := Zhe
 refine vQ ?_
 refine Ja rfl ?_
 apply yI
 repeat first|apply yX|apply yB
 refine yL [] .nil ?_
 refine vQ ?_
 refine Jq (ZC rfl (hP) qF qA) ?_
 refine Jm rfl (Jq (Z32 rfl) ?_)
 refine Jq (Z30 rfl) ?_
 refine JO.alloc Z1j rfl fun b1 => ?_
 refine JO.m (Z3 rfl rfl qU (by exact Z1b rfl rfl) (by exact Z3o) Zs) (by rfl) ?_
 refine Ja rfl ?_
 refine vS [1, 2] ?_
 refine J.front b1 (by repeat (first|exact .here|apply Front.there)) ?_
 refine J.openOwnSt fun vc vn vr vi vf vw vg vo vs h1c => ?_
 repeat apply yQ
 refine J.reg0 hmx qK qK ?_
 refine yz (Z2 rfl) ?_
 refine yz (ZK rfl rfl) ?_
 refine yz (Z2 rfl) ?_
 refine yg rfl rfl rfl (fun hg => ZF (cs := [_, _, _, _, _, _, _, _, _, _, _, _, _, _]) Zc (.inl rfl) rfl rfl) ?_
 refine yg rfl rfl rfl (fun hg => ZC (.inl rfl) (Z8Z 0 S0 hgS hk9) qF (.sub (qR rfl) (Sub.st rfl fun X w hf w' hk => ⟨hf _ qI w' hk, hf _ qI w' hk, hf _ qI w' hk, hf _ qI w' hk, hf _ qI w' hk, hf _ qI w' hk, hf _ qI w' hk, hf _ qI w' hk, hf _ qI w' hk⟩) .nil)) ?_
 refine yg rfl rfl rfl (fun hg => Z3d (qR rfl) (.inl rfl)) ?_
 refine yz (ZP rfl rfl rfl id) ?_
 refine yz (Z1s rfl) ?_
 apply yn
 refine FinS.nil0 ?_
 refine vS [0] ?_
 refine vR ?_
 exact JX.ret1is rfl rfl (by rw [htx]; exact congrArg Value.bool (by decide +kernel))
set_option maxHeartbeats 1000000 in
theorem Z9b (s : ByteArray) (hsz : s.data.toList.length ≤ 140737488351232) : CallF Tryz.prog Z9z [NH 0, GF, AF, TF] [.is (.string s)] (.is (.bool true)) :=
CallF.of (fn := Tryz.f11) Tryz.func11 (n := 65) rfl rfl rfl (fun _ _ => by kernel_rfl) fun E W => by
 have hs1 := Zgl (tDel ++ 32 :: s.data.toList)
 have hP1 := c_PL 0 (tDel ++ 32 :: s.data.toList)
 have hgd := ZbM (l := tDel ++ 32 :: s.data.toList)
 have hwf := Z9G (l := tDel ++ 32 :: s.data.toList)
 have hdl := ZiH (m := s.data.toList)
 obtain ⟨p1, hp1⟩ : ∃ q, q = prS (tDel ++ 32 :: s.data.toList) := ⟨_, rfl⟩
 rw [← hp1] at hs1 hP1 hgd hwf hdl
 obtain ⟨xw, hxw⟩ : ∃ q, q = p1.1.where_.headD ex0 := ⟨_, rfl⟩
 have hP2 := c_PL 0 (tDel ++ 32 :: prE xw)
 obtain ⟨p2, hp2⟩ : ∃ q, q = prS (tDel ++ 32 :: prE xw) := ⟨_, rfl⟩
 rw [← hp2] at hP2
 have hb2 : 2048 < (tDel ++ 32 :: prE xw).length → p2.2 = 30 := fun h => by rw [hp2, ZhY h]
 refine vQ ?_
 refine Ja rfl ?_
 refine vP [0] ?_
 refine Jq (ZC rfl (Zcn) qF .nil) ?_
 refine Jq (Z67 rfl) ?_
 refine vS [0, 11] ?_
 refine yC rfl (fun ht11 => ?_) (fun ht11 => ?_)
 try simp only [yd, yf] at ht11
 refine vQ ?_
 refine Ja rfl ?_
 refine vS [2] ?_
 refine vR ?_
 exact JX.ret1is rfl rfl (by exact absurd ht11 qD)
 try simp only [yd, yf] at ht11
 apply yK
 refine vN ?_
 apply yN
 refine Jm rfl (Jq (Zd rfl rfl (sz3 qD qM) (Zv (tDel ++ [32]) (tx s))) ?_)
 refine Jq (ZC rfl (hP1) qF qA) ?_
 refine Jm rfl (Jq (Z32 rfl) ?_)
 refine Jq (Z30 rfl) ?_
 refine JO.alloc Z1j rfl fun b3 => ?_
 refine JO.m (Z3 rfl rfl qU (by exact Z1b rfl rfl) (by exact Z3o) Zs) (by rfl) ?_
 refine Ja rfl ?_
 refine vS [0, 3, 4] ?_
 refine J.front b3 (by repeat (first|exact .here|apply Front.there)) ?_
 refine J.openOwnSt fun vc vn vr vi vf vw vg vo vs h1c => ?_
 refine J.shapeEG (xs := p1.1.where_) (v := vw) qI (fun pw aw lw cw bw ow_ hpw hvw hlw hcw haw => ?_)
 subst hvw
 have nw : lw = p1.1.where_.length := by rw [← hlw, ← hpw, List.length_map]
 repeat apply yQ
 refine J.reg0 hmx qK qK ?_
 refine yz (Z2 rfl) ?_
 refine yz (Z24 rfl rfl) ?_
 refine yz (Z2 rfl) ?_
 refine yg rfl rfl rfl (fun hg => Z0 Z1J (.inl rfl)) ?_
 refine yg rfl rfl rfl (fun hg => Z1 Zh (qR rfl) rfl) ?_
 refine yg rfl rfl rfl (fun hg => Zn Zj (qR rfl)) ?_
 refine yg rfl rfl rfl (fun hg => Z24 (qR rfl) (.inl rfl)) ?_
 refine yz (ZT rfl rfl rfl id) ?_
 apply yn
 refine FinS.nil0 ?_
 refine vS [0, 3, 25] ?_
 refine yC rfl (fun ht25 => ?_) (fun ht25 => ?_)
 try simp only [yd, yf] at ht25
 refine vQ ?_
 refine Ja rfl ?_
 refine vS [2] ?_
 refine vR ?_
 exact JX.ret1is rfl rfl (rfl)
 try simp only [yd, yf] at ht25
 apply yK
 repeat first|apply yX|apply yB
 have hq0 : p1.2 = 0 := by simp at ht25; exact ht25.1
 have hl1 : p1.1.where_.length = 1 := by simp at ht25; omega
 obtain ⟨hgS, hk9⟩ := hgd hq0
 obtain ⟨y, hwy, hpy⟩ := hdl hq0 hl1
 have hxy : xw = y := by rw [hxw, hpy]; rfl
 subst hxy
 have hxs : p1.1.where_ = [xw] := by rw [hpy]
 have hwx := hwy
 have hex : ect xw ≤ 4096 := hs1.2 xw (by unfold exsOf; rw [hxs]; simp)
 have hpl := Z7Y hwx hex
 have htxt : txS p1.1 = [68, 69, 76, 69, 84, 69, 32, 70, 82, 79, 77, 32, 116, 32, 87, 72, 69, 82, 69, 32] ++ prE xw := by rw [hpy]; exact Zh7
 have hb1 : (tDel ++ 32 :: prE xw).length ≤ 2048 → p2 = (p1.1, 0) := fun h => by rw [hp2]; exact ZgO hwx hpy (hwf hq0).2 h
 have hEQ : p2.2 = 0 → p2.1 = p1.1 := fun h => by
   by_cases hl : (tDel ++ 32 :: prE xw).length ≤ 2048
   · rw [hb1 hl]
   · rw [hb2 qM] at h; cases h
 refine J.fact (KidsR p1.1.where_ aw lw) (fun X w hF _ w' hk => by rw [← hpw]; exact Cel.kids (hF (RowG Cel.cs 8 pw aw lw) qI w' hk) (hF (CelF exE pw) qI w' hk)) ?_
 refine vQ ?_
 refine Jq (Z0 Z1J rfl) ?_
 refine Jq (Z1 Zh rfl rfl) ?_
 refine Jq (Z7 Z1L rfl (haw qM) rfl qM qM) ?_
 refine Jq (Z2X (i := 0) (kid := xw) Z9 rfl qI (haw qM) (by rw [hxs]; rfl) rfl) ?_
 refine Jq (ZC rfl (c_PE (x := xw) hwx hex) qF qA) ?_
 refine Ja rfl ?_
 refine vP [0, 3, 5] ?_
 refine Jq (ZF (cs := [_, _, _, _, _, _, _, _, _, _, _, _, _, _]) Zc rfl rfl rfl) ?_
 refine Jq (ZC rfl (Z8Z 0 p1.1 hgS hk9) qF (.sub rfl (Sub.st rfl fun X w hf w' hk => ⟨hf _ qI w' hk, hf _ qI w' hk, hf _ qI w' hk, hf _ qI w' hk, hf _ qI w' hk, hf _ qI w' hk, hf _ qI w' hk, hf _ qI w' hk, hf _ qI w' hk⟩) .nil)) ?_
 refine Jm rfl (Jq (Zd rfl rfl (sz2 qD qZ) (Zv [68, 69, 76, 69, 84, 69, 32, 70, 82, 79, 77, 32, 116, 32, 87, 72, 69, 82, 69, 32] _)) ?_)
 refine Jq (Z33 rfl rfl) ?_
 refine vS [0, 3, 5, 35] ?_
 refine yC rfl (fun ht35 => ?_) (fun ht35 => ?_)
 try simp only [yd, yf] at ht35
 refine vQ ?_
 refine Ja rfl ?_
 refine vS [2] ?_
 refine vR ?_
 exact JX.ret1is rfl rfl (by exact absurd ht35 (by rw [htxt]; simp [seq]))
 try simp only [yd, yf] at ht35
 apply yK
 refine vN ?_
 apply yN
 refine Jm rfl (Jq (Zd rfl rfl (sz2 qD qZ) (Zv (tDel ++ [32]) _)) ?_)
 refine Jq (ZC rfl (hP2) qF qA) ?_
 refine Jm rfl (Jq (Z32 rfl) ?_)
 refine Jq (Z30 rfl) ?_
 refine JO.alloc Z1j rfl fun b6 => ?_
 refine JO.m (Z3 rfl rfl qU (by exact Z1b rfl rfl) (by exact Z3o) Zs) (by rfl) ?_
 refine Ja rfl ?_
 refine vP [0, 3, 5, 6, 7] ?_
 refine Jm rfl (Jq (Zd rfl rfl (sz3 qD qM) (Zv (tDel ++ [32]) (tx s))) ?_)
 refine Jq (ZC rfl (hP1) qF qA) ?_
 refine Jm rfl (Jq (Z32 rfl) ?_)
 refine Jq (Z30 rfl) ?_
 refine JO.alloc Z1j rfl fun b8 => ?_
 refine JO.m (Z3 rfl rfl qU (by exact Z1b rfl rfl) (by exact Z3o) Zs) (by rfl) ?_
 refine Ja rfl ?_
 refine vS [3, 5, 6, 7, 8] ?_
 refine J.front b8 (by repeat (first|exact .here|apply Front.there)) ?_
 refine J.openOwnSt fun vcc vnc vrc vic vfc vwc vgc voc vsc h1cc => ?_
 refine J.front b6 (by repeat (first|exact .here|apply Front.there)) ?_
 refine J.openOwnSt fun vcz vnz vrz viz vfz vwz vgz voz vsz h1cz => ?_
 repeat apply yQ
 refine J.reg0 hmx qK qK ?_
 refine yz (ZF (cs := [_, _, _, _, _, _, _, _, _, _, _, _, _, _]) Zc rfl rfl rfl) ?_
 refine yz (ZF (cs := [_, _, _, _, _, _, _, _, _, _, _, _, _, _]) Zc rfl rfl rfl) ?_
 refine yz (ZI rfl (Z9m 0 0 p1.1 hs1.1 hs1.2) (.sub rfl (Sub.st rfl fun X w hf w' hk => ⟨hf _ qI w' hk, hf _ qI w' hk, hf _ qI w' hk, hf _ qI w' hk, hf _ qI w' hk, hf _ qI w' hk, hf _ qI w' hk, hf _ qI w' hk, hf _ qI w' hk⟩) (.sub rfl (Sub.st rfl fun X w hf w' hk => ⟨hf _ qI w' hk, hf _ qI w' hk, hf _ qI w' hk, hf _ qI w' hk, hf _ qI w' hk, hf _ qI w' hk, hf _ qI w' hk, hf _ qI w' hk, hf _ qI w' hk⟩) .nil))) ?_
 refine yz (Z2 rfl) ?_
 refine yg rfl rfl rfl (fun hg => Z2 (.inl rfl)) ?_
 refine yg rfl rfl rfl (fun hg => ZK (qR rfl) (.inl rfl)) ?_
 refine yg rfl rfl rfl (fun hg => Z2 (qR rfl)) ?_
 refine RT.gg rfl rfl rfl (fun hg => (ZF (cs := [_, _, _, _, _, _, _, _, _, _, _, _, _, _]) Zc (.inl rfl) rfl rfl)) ?_
 refine RT.gg rfl rfl rfl (fun hg => (ZF (cs := [_, _, _, _, _, _, _, _, _, _, _, _, _, _]) Zc (.inl rfl) rfl rfl)) ?_
 refine RT.gg rfl rfl rfl (fun hg => (ZI (.inl rfl) (Z9m 0 0 p1.1 hs1.1 hs1.2) (.sub (qR rfl) (Sub.st rfl fun X w hf w' hk => ⟨hf _ qI w' hk, hf _ qI w' hk, hf _ qI w' hk, hf _ qI w' hk, hf _ qI w' hk, hf _ qI w' hk, hf _ qI w' hk, hf _ qI w' hk, hf _ qI w' hk⟩) (.sub (qR rfl) (by have e : p2.1 = p1.1 := hEQ (by simp at hg; first|exact hg|exact hg.2); rw [← e]; exact Sub.st rfl fun X w hf w' hk => ⟨hf _ qI w' hk, hf _ qI w' hk, hf _ qI w' hk, hf _ qI w' hk, hf _ qI w' hk, hf _ qI w' hk, hf _ qI w' hk, hf _ qI w' hk, hf _ qI w' hk⟩) .nil)))) ?_
 refine yg rfl rfl rfl (fun hg => ZP (qR rfl) (.inl rfl) (.inl rfl) (fun h => ⟨hg, h⟩)) ?_
 refine yg rfl rfl rfl (fun hg => Z2 (qR rfl)) ?_
 refine RT.gg rfl rfl rfl (fun hg => (Z2 (.inl rfl))) ?_
 refine RT.gg rfl rfl rfl (fun hg => (Z3C Zu (qR rfl))) ?_
 refine RT.gg rfl rfl rfl (fun hg => (Z25 (qR rfl) (.inl rfl))) ?_
 refine yg rfl rfl rfl (fun hg => ZT (qR rfl) (.inl rfl) (.inl rfl) (fun h => ⟨hg, h⟩)) ?_
 refine yz (ZP rfl rfl rfl id) ?_
 refine yz (Z1s rfl) ?_
 apply yn
 refine FinS.nil0 ?_
 refine vS [2] ?_
 refine vR ?_
 exact JX.ret1is rfl rfl (by
 by_cases hl : (tDel ++ 32 :: prE xw).length ≤ 2048
 · have e0 : p2.2 = 0 := by rw [hb1 hl]
   rw [e0]; rfl
 · have e1 : (tDel ++ 32 :: prE xw).length = (prE xw).length + 20 := by simp
   rw [Z3z, decide_eq_true (show (2020 : Int) < ((prE xw).length : Nat) by omega)]; simp)
end Go.Proofs.YtbedigkncjbggaaGreatDoor
set_option maxRecDepth 100000
namespace Go.Proofs.YtbedigkncjbggaaGreatDoor
open Go Go.Vc Go.Shelf Go.ChangeShapes Go.WideShapes Go.ChangeAt Go.RowKit
theorem own : ownKnob Tryz.prog.godebug = none := by kernel_rfl
theorem laidOut : laidOutB Tryz.prog = true := by kernel_rfl
def litCells : DataW Unit → Array Value
 | .agg l => (l.map fun | .lit (.int k z) => Value.int k z | _ => undef).toArray
 | _ => #[]
def accCells : Array Value := ((List.range 16).flatMap fun i => [Value.int .u8 (Lib.accLo i), Value.int .u8 (Lib.accHi i)]).toArray
def wsCells : Array Value := ([9, 13, 1, 32, 133, 101, 160, 5760, 5600, 8192, 8202, 1, 8232, 8233, 1, 8239, 8287, 48, 12288, 12288, 1].map fun z => Value.int .u16 z).toArray
noncomputable def laidWorld (os : Os) : World :=
 let N := (World.settled Tryz.prog os).heap.size
 let w0 := World.holding Tryz.prog os ⟨#[.cells Lib.caseCells5 (Z4D.t 208), .cells #[.slice (some ⟨N + 2, 0, none⟩) 7 7, .slice none 0 0, .int .i64 2] 217, .cells wsCells 220], #[], []⟩
 let put (h : Array Obj) (g : Nat) (cs : Array Value) : Array Obj := h.modify g fun
  | .cells _ t frozen => .cells cs t frozen
  | o => o
 let h0 := put w0.heap 0 (litCells Rows.laid_strings_asciiSpace)
 let h3 := put h0 3 #[.slice (some ⟨N, 0, none⟩) 336 336]
 let h4 := put h3 4 #[.pointer (some ⟨N + 1, 0, none⟩)]
 let h5 := put h4 5 (Lib.firstTab.map fun z => Value.int .u8 z).toArray
 let h6 := put h5 6 accCells
 let h2 := put h6 2 (litCells Rows.laid_internal_strconv_uint64pow10)
 let h7 := put h2 7 (litCells Rows.laid_math_bits_deBruijn32tab)
 let h8 := put h7 8 (litCells Rows.laid_math_bits_deBruijn64tab)
 { w0 with heap := h8 }
noncomputable abbrev N0 : Nat := (World.settled Tryz.prog default).heap.size
noncomputable abbrev LW (os : Os) (args : Array Value) : World := ((laidWorld os).forCall (fun _ _ => 0) ⟨#[], args, []⟩).memory
theorem Zg6 (os : Os) (args : Array Value) : LaidIn Tryz.prog (LW os args) [("unicode/utf8.acceptRanges", Rows.laid_unicode_utf8_acceptRanges)] [6] :=
 LaidIn.of_run [6] 8 qK qK qK qK
theorem ZdD (os : Os) (args : Array Value) : LaidIn Tryz.prog (LW os args) [("unicode/utf8.first", Rows.laid_unicode_utf8_first)] [5] :=
 LaidIn.of_run [5] 8 qK qK qK qK
theorem ZdQ {P : Program} {ρ : Ren} (L : Lays.n274 P ρ) (t206 : P.underlying (ρ.t 206) = some (.array 3 (ρ.t 21))) (X : CaseExtra P ρ) {w : World} (R : Nat) (t : TypeId) (hgR : ρ.g 13 ≠ R)
   (hvar : w.heap[ρ.g 13]? = some (.cells #[.slice (some ⟨R, 0, none⟩) Lib.caseA.size Lib.caseA.size] (ρ.t 162) (0, 0)))
   (hblk : w.heap[R]? = some (.cells Lib.caseCells5 t (0, 0))) : LaidIn P w [("unicode.CaseRanges", Lib.caseData)] [ρ.g 13, R] := by
 have hT := caseTab_of_block hblk
 have hread := case_slice_reads L t206 X hT caseA_wf (by rw [Lib.caseA_size]; unfold maxLen; omega) 0
 rw [case_rows_data] at hread
 have hv : w.var? P "unicode.CaseRanges" = some #[.slice (some ⟨R, 0, none⟩) Lib.caseA.size Lib.caseA.size] := by simp [World.var?, X.n13, hvar]
 refine LaidIn.one (cs := #[.slice (some ⟨R, 0, none⟩) Lib.caseA.size Lib.caseA.size]) [ρ.g 13, R] X.n13 X.y13 hv hread ?_ ?_ ?_
 · refine List.nodup_append.2 ⟨row_nodup _ _, row_nodup _ _, ?_⟩
   intro a ha b hb e
   obtain ⟨i, _, rfl⟩ := MemPlace.mem_row.1 ha
   obtain ⟨j, _, rfl⟩ := MemPlace.mem_row.1 hb
   simp at e
   exact hgR e.1
 · intro b off hp
   rcases List.mem_append.1 hp with hp | hp
   · obtain ⟨i, hi, e⟩ := MemPlace.mem_row.1 hp
     cases e
     refine ⟨⟨_, _, hvar⟩, fun u v hc => ?_⟩
     obtain rfl : i = 0 := by simp at hi; omega
     rw [Lib.cell_of_heap hvar] at hc
     simp at hc
   · obtain ⟨i, hi, e⟩ := MemPlace.mem_row.1 hp
     cases e
     refine ⟨⟨_, _, hblk⟩, fun u v hc => ?_⟩
     obtain ⟨c0, c1, c2, c3, c4⟩ := hT (i / 5) qM
     have hi5 : 0 + i = 0 + i / 5 * 5 + i % 5 := by omega
     simp only at hc
     rw [hi5] at hc
     have hm : i % 5 < 5 := Nat.mod_lt _ qM
     match hk : i % 5, hm with
     | 0, _ => rw [hk, Nat.add_zero, c0] at hc; cases hc
     | 1, _ => rw [hk, c1] at hc; cases hc
     | 2, _ => rw [hk, c2] at hc; cases hc
     | 3, _ => rw [hk, c3] at hc; cases hc
     | 4, _ => rw [hk, c4] at hc; cases hc
 · intro x hx
   rcases List.mem_append.1 hx with hx | hx
   · obtain ⟨i, _, rfl⟩ := MemPlace.mem_row.1 hx
     exact List.mem_cons_self
   · obtain ⟨i, _, rfl⟩ := MemPlace.mem_row.1 hx
     exact List.mem_cons_of_mem _ List.mem_cons_self
theorem caseX : CaseExtra Tryz.prog Z4D := ⟨by kernel_rfl, by kernel_rfl, by kernel_rfl, by kernel_rfl, by kernel_rfl, by kernel_rfl⟩
theorem ZeQ (os : Os) (args : Array Value) : LaidIn Tryz.prog (LW os args) [("unicode.CaseRanges", Rows.laid_unicode_CaseRanges)] [3, N0] := by
 show LaidIn Tryz.prog (LW os args) [("unicode.CaseRanges", Go.Pinned.caseRanges)] [3, N0]
 rw [Pinned.caseRanges_eq]
 exact ZdQ { lays158 with } lays158.t206 caseX N0 (Z4D.t 208) (of_decide_eq_true qK) qK qK
theorem ZgR (os : Os) (args : Array Value) : LaidIn Tryz.prog (LW os args) [("unicode.White_Space", Rows.laid_unicode_White_Space)] [4, N0 + 1, N0 + 2] :=
 LaidIn.of_run [4, N0 + 1, N0 + 2] 8 qK qK qK qK
theorem ZfX (os : Os) (args : Array Value) : LaidIn Tryz.prog (LW os args) [("strings.asciiSpace", Rows.laid_strings_asciiSpace)] [0] :=
 LaidIn.of_run [0] 8 qK qK qK qK
theorem ZeW (os : Os) (args : Array Value) : LaidIn Tryz.prog (LW os args) [("math/bits.deBruijn32tab", Rows.laid_math_bits_deBruijn32tab), ("math/bits.deBruijn64tab", Rows.laid_math_bits_deBruijn64tab), ("internal/strconv.uint64pow10", Rows.laid_internal_strconv_uint64pow10)] [7, 8, 2] :=
 LaidIn.of_run [7, 8, 2] 8 qK qK qK qK
end Go.Proofs.YtbedigkncjbggaaGreatDoor
set_option maxRecDepth 100000
namespace Go.Proofs.YtbedigkncjbggaaGreatDoor
open Go Go.Vc Go.ChangeShapes Go.WideShapes Go.ChangeAt Go.RowKit
theorem Zfa {W : World} (h : W.ShapedOpen Tryz.prog) : GF W :=
 cell_of_shapedOpen_int (zero := #[.int .i64 0]) (t := 3) h (of_decide_eq_true qK) qK rfl qK qK Tryz.underlying3
theorem Zgh {W : World} {a : Addr} {v : Value} (h : W.cell? a = some v) : ∀ w', Keeps noX W w' → w'.cell? a = some v := fun w' hk => by
 unfold World.cell? at h ⊢
 cases hb : W.heap[a.block]? with
 | none => rw [hb] at h; simp at h
 | some o =>
   rw [hk.get hb (fun h => h)]
   rw [hb] at h
   exact h
theorem ZiP {W : World} (h : GF W) : Pers noX W GF := fun w' hk => by
 obtain ⟨m, hm⟩ := h
 exact ⟨m, Zgh hm w' hk⟩
theorem Zfm : Tryz.prog.readableRec Zw = true ∧ Zw < Tryz.prog.types.size := ⟨by kernel_rfl, of_decide_eq_true qK⟩
theorem size1 {H : Type} {l : List UInt8} (h : (DataW.weightsEach (H := H) Tryz.prog [Zw] [.lit (.string l)]).all (· ≤ reachBytes) = true) : l.length ≤ 140737488351232 := by
 simp only [DataW.weightsEach, DataW.weights, List.append_nil, List.all_cons, List.all_nil, Bool.and_true, decide_eq_true_eq] at h
 exact h
theorem Zi8 {W : World} (h : AF W) : Pers noX W AF := fun w' hk =>
 Joins.tab_stays (by kernel_rfl : Tryz.prog.globalNamed "strings.asciiSpace" = some 0) h hk.below (Nat.le_refl _)
end Go.Proofs.YtbedigkncjbggaaGreatDoor
set_option maxRecDepth 100000
namespace Go.Proofs.YtbedigkncjbggaaGreatDoor
open Go Go.Vc Go.ChangeShapes Go.WideShapes Go.ChangeAt Go.RowKit
theorem ZfO (os : Os) (args : Array Value) : laidMet Tryz.prog Rows.printBackRow.laid (LW os args) :=
 ((((((ZeW os args).append (Zg6 os args) qK).append (ZgR os args) qK).append (ZfX os args) qK).append (ZeQ os args) qK).append (ZdD os args) qK).met
theorem Zhn {W : World} (h : laidMetH Tryz.prog Rows.printBackRow.laid W) : AF W := by
 have h1 : laidMet Tryz.prog Rows.printBackRow.laid W := h
 exact Lib.tabIs_of_head (t := 187) (e := 5) (n := 256) (by kernel_rfl : Tryz.prog.globalNamed "strings.asciiSpace" = some 0) qK qK qK qK qK (laidMet.tail (laidMet.tail (laidMet.tail (laidMet.tail (laidMet.tail h1)))))
theorem ZgW {W : World} (h : laidMetH Tryz.prog Rows.printBackRow.laid W) : TF W := by
 have h1 : laidMet Tryz.prog Rows.printBackRow.laid W := h
 exact Lib.tabIs_of_head (t := 193) (e := 136) (n := 20) (by kernel_rfl : Tryz.prog.globalNamed "internal/strconv.uint64pow10" = some 2) qK qK qK qK qK (laidMet.tail (laidMet.tail h1))
theorem ZhR {W : World} (h : TF W) : Pers noX W TF := fun w' hk =>
 Joins.tab_stays (by kernel_rfl : Tryz.prog.globalNamed "internal/strconv.uint64pow10" = some 2) h hk.below (Nat.le_refl _)
end Go.Proofs.YtbedigkncjbggaaGreatDoor
set_option maxRecDepth 100000
namespace Go.Proofs.YtbedigkncjbggaaGreatDoor
open Go Go.Vc Go.ChangeShapes Go.WideShapes Go.ChangeAt Go.RowKit
open Go.ChangeMaps (open_string)
theorem ZaH (os : Os) (args : Array Value) : laidMet Tryz.prog Rows.printExprsRow.laid (LW os args) := ZfO os args
theorem Z9e (os : Os) {H : Type} (enc : TypeId × Value → H) :
  (OpenSpec.ofChange Rows.printExprsSpec).preRow enc Tryz.prog Tryz.f11 Rows.printExprsRow.domain false Rows.printExprsRow.laid (LW os #[.string ⟨#[]⟩]) #[.string ⟨#[]⟩] := by
 have hw : (DataW.whole enc Tryz.prog (LW os #[.string ⟨#[]⟩]) Tryz.f11.params.toList Rows.printExprsSpec.vars false (#[.string ⟨#[]⟩] : Array Value).toList 8).map (fun x => (x.1, x.2.1)) = some ([.lit (.string [])], []) := by kernel_rfl
 obtain ⟨⟨x1, x2, x3⟩, hx, hx1⟩ := Option.map_eq_some_iff.1 hw
 simp only [Prod.mk.injEq] at hx1
 obtain ⟨rfl, rfl⟩ := hx1
 exact OpenSpec.preRow_of_cond 8 hx qK (fun k hk => by cases hk) qK (ZaH os _)
set_option maxHeartbeats 2000000 in
theorem Z9W (os : Os) (started : os.Started) (H : Type) (enc : TypeId × Value → H) (F : Stop.Interp) :
   ReturnsInHanded {} Tryz.checked os 11 .any ((OpenSpec.ofChange Rows.printExprsSpec).preRow enc Tryz.prog Tryz.f11 Rows.printExprsRow.domain false Rows.printExprsRow.laid) (((OpenSpec.ofChange Rows.printExprsSpec).at F).post enc Tryz.prog Tryz.f11 false true false false) := by
 refine returnsInHanded_of_row (C := Tryz.checked) (s := OpenSpec.ofChange Rows.printExprsSpec) own started qK Tryz.func11
   (witness_row_atRef (enc := enc) (C := Tryz.checked) false (laidWorld os) #[.string ⟨#[]⟩] rfl qK qK qK (Z9e os enc)) ?_
 intro W base args ds gs before hval0 hW _ _ hsz0 hL hsh _
 have hW' := hW
 obtain ⟨p, q, hA0, hV, rfl, hfz, hnd⟩ := hW
 have hA : DataW.TrodAll enc Tryz.prog W 0 (fun _ => true) true [Zw] args.toList ds p := hA0
 have hgf := ZiP (Zfa hsh)
 have haf := Zi8 (Zhn hL)
 have htf := ZhR (ZgW hL)
 obtain ⟨v0, d0, rfl, rfl, h0⟩ := trodAll_one hA
 obtain ⟨rfl, rfl⟩ := trodVars_none hV
 obtain ⟨s, rfl, rfl, rfl, _⟩ := open_string Zu (hval0 0 Zw v0 rfl rfl) h0
 have hsz : (DataW.weightsEach (H := H) Tryz.prog [Zw] [.lit (.string s.data.toList)]).all (· ≤ reachBytes) = true := hsz0
 refine ((Z9b s (by exact size1 hsz)).calls noX W [.string s] (fun _ h => h.elim) (fun F hF => by rcases yc.1 hF with rfl | hF; exact fun w' _ => Nat.zero_le _; rcases yc.1 hF with rfl | hF; exact hgf; rcases yc.1 hF with rfl | hF; exact haf; rcases yc.1 hF with rfl | hF; exact htf; cases hF) ⟨rfl, trivial⟩).mono fun e W' ⟨v, he, hk, hR⟩ => ?_
 subst he
 have hR' : v = .bool true := hR
 subst hR'
 exact ⟨_, rfl, ZgJ (f := Tryz.f11) (s := Rows.printExprsSpec) (tB := Zez) laidOut (mem1 Zfm) qK qK rfl rfl rfl rfl hW' hk⟩
theorem ZaU : Rows.PrintExprsSaid :=
 OpenClaim.holds_of_cond 11 Tryz.f11 rfl rfl rfl rfl rfl rfl rfl ⟨rfl, rfl, rfl, rfl, rfl⟩ rfl rfl rfl rfl rfl qK Tryz.func11 qK
  (of_decide_eq_true qK) (by unfold Func.isWrapper; first|(rw [if_pos (by decide +kernel)]; kernel_rfl)|(rw [if_neg (by decide +kernel)]; exact ⟨rfl, rfl⟩))
  (fun os started H enc _ F => by rw [OpenClaim.pre_eq_preRow]; exact Z9W os started H enc F)
theorem Zao (f : FuncId) (fn : Func) (hf : Tryz.pinned.checked.prog.funcNamed "cadastre/cadastrelaw11.PrintExprs" = some f) (hfn : Tryz.pinned.checked.prog.funcs[f]? = some fn) :
  true = Tryz.pinned.checked.prog.looks [] ∧ ∀ (j : Nat) t, fn.params[j]? = some t → Tryz.pinned.checked.prog.wantsStandIn t = false := by
 obtain rfl : f = 11 := Option.some.inj ((show Tryz.prog.funcNamed "cadastre/cadastrelaw11.PrintExprs" = some 11 by kernel_rfl).symm.trans hf) |>.symm
 obtain rfl : fn = Tryz.f11 := (Option.some.inj (Tryz.func11.symm.trans hfn)).symm
 refine ⟨by kernel_rfl, fun j t ht => ?_⟩
 have hp : Tryz.f11.params = #[Zw] := by kernel_rfl
 rw [hp] at ht
 obtain rfl : t = Zw := by simpa using Array.mem_of_getElem? ht
 exact (show Tryz.prog.wantsStandIn Zw = false by kernel_rfl)
theorem printExprs_card : Rows.PrintExprsCardSaid :=
 Claim7.holds_tied_plain_at .later [] _ _ _ _ ZaU (fun _ h => by cases h) qK (fun _ h => by cases h) printExprs_row_tie rfl ⟨rfl, rfl⟩ qK rfl Zao qK
#print axioms printExprs_card
end Go.Proofs.YtbedigkncjbggaaGreatDoor
