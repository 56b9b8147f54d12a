/- awake; an expression wherever it stands. No condition. -/
import Derived.Test.YtbedigkncjbggaaGreatDoorXQ12
import Derived.Test.YtbedigkncjbggaaGreatDoorXQ13
import Derived.Test.YtbedigkncjbggaaGreatDoorXG8
import Derived.Test.YtbedigkncjbggaaGreatDoorXQ2
import Derived.Test.YtbedigkncjbggaaGreatDoorRows
import Derived.Deep.DeepHandedRow
import Derived.Deep.DeepWitnessRowRef
import Derived.Lib.LaidCaseMet
import Derived.Lib.LaidIn
import Derived.PinnedBridge
import Derived.ProofKit
import Derived.Test.YtbedigkncjbggaaGreatDoorXG1
import Derived.Stop.LaidErr
import Derived.Lib.LaidTab
import Derived.Lib.SmallJoins
import Derived.Shelf.Vars
import Derived.JoinedCond
import Derived.ChangeMaps5
import Derived.Test.YtbedigkncjbggaaGreatDoorCards
import Derived.Test.YtbedigkncjbggaaGreatDoorTie
set_option maxRecDepth 20000
namespace Go.Proofs.YtbedigkncjbggaaGreatDoor
open Go Go.Vc
open Go.Pz
theorem c_PF (N : Nat) (s : ByteArray) : CallF Tryz.prog Z3Q [NH N, GF, AF] [.is (.string s)] (.tup2 (.rep (StR N (prS s.data.toList).1)) (.is (.int .i64 (prS s.data.toList).2))) := CallL.toF (Zai N s) rfl
abbrev aw1 : ByteArray := ⟨#[115, 101, 108, 101, 99, 116, 32, 42, 32, 102, 114, 111, 109, 32, 116, 32, 119, 104, 101, 114, 101, 32, 97, 32, 61, 32, 49, 32, 97, 110, 100, 32, 110, 111, 116, 32, 98]⟩
abbrev aw2 : ByteArray := ⟨#[97, 32, 60, 32, 98, 32, 60, 32, 99]⟩
theorem Zhx : ∃ S0 : Pz.St, S0.kind = 4 ∧ (∃ y, S0.items = [y] ∧ y.all = true) ∧ (∃ x, S0.where_ = [x] ∧ x.K = 16) ∧ S0.limit = -1 ∧ CallF Tryz.prog Z3Q [NH 0, GF, AF] [.is (.string aw1)] (.tup2 (.rep (StR 0 S0)) (.is (.int .i64 0))) := by
  have h0 : (prS aw1.data.toList).2 = 0 := by decide +kernel
  have h1 : (prS aw1.data.toList).1.kind = 4 := by decide +kernel
  have h2 : (match (prS aw1.data.toList).1.items with | [y] => y.all | _ => false) = true := by decide +kernel
  have h3 : (match (prS aw1.data.toList).1.where_ with | [x] => x.K == 16 | _ => false) = true := by decide +kernel
  have h4 : (prS aw1.data.toList).1.limit = -1 := by decide +kernel
  have hc := c_PF 0 aw1
  generalize prS aw1.data.toList = p at h0 h1 h2 h3 h4 hc
  obtain ⟨S0, e⟩ := p
  dsimp only at h0 h1 h2 h3 h4 hc
  subst h0
  refine ⟨S0, h1, ?_, ?_, h4, hc⟩
  · split at h2
    · rename_i y hy; exact ⟨y, hy, h2⟩
    · cases h2
  · split at h3
    · rename_i x hx; exact ⟨x, hx, by simpa using h3⟩
    · cases h3
theorem Zhp : ∃ S0 : Pz.St, CallF Tryz.prog Z3Q [NH 0, GF, AF] [.is (.string aw2)] (.tup2 (.rep (StR 0 S0)) (.is (.int .i64 30))) := by
 have h0 : (prS aw2.data.toList).2 = 30 := by decide +kernel
 have hc := c_PF 0 aw2
 generalize prS aw2.data.toList = p at h0 hc
 obtain ⟨S0, e⟩ := p
 dsimp only at h0 hc
 subst h0
 exact ⟨S0, hc⟩
theorem Zg3 {ps : List (Cel exE)} {l : List Ex} (h : ∃ w, CelF exE ps w) (hm : ps.map Cel.x = l) {i : Nat} (hi : i < ps.length) (hi' : i < l.length) : (ps[i].cs)[0]? = some (.int .i64 (l[i]).K) := by
 obtain ⟨w, hw⟩ := h
 subst hm
 have h1 : ExR ps[i].x (.agg (ps[i].cs).toArray) w := hw _ (List.getElem_mem hi)
 generalize ps[i].cs = cs at h1
 rw [List.getElem_map]
 generalize ps[i].x = x at h1
 cases x
 unfold ExR at h1
 obtain ⟨a, len, cap, e, _⟩ := h1
 rw [Z3v e]; rfl
theorem Za9  : CallF Tryz.prog Zaa [NH 0, GF, AF] [] (.is (.bool true)) :=
CallF.of (fn := Tryz.f12) Tryz.func12 (n := 56) rfl rfl rfl (fun _ _ => by kernel_rfl) fun E W => by
 obtain ⟨S1, hk1, ⟨y1, hy1, hy2⟩, ⟨x1, hx1, hx2⟩, hlim, hP1⟩ := Zhx
 obtain ⟨S2, hP2⟩ := Zhp
 repeat apply Sq
 apply Pn
 refine Jt (Z2 rfl) rfl ?_
 apply Ni
 repeat first | apply Nx | apply Nb
 refine Sl [] .nil ?_
 repeat apply Sq
 apply Pn
 refine Jt (Z2M rfl hP1 (fun F hF => by repeat (first | (rcases Mc.1 hF with rfl | hF; · (repeat first | exact Mh | apply Mt)) | (cases hF; done))) (.one rfl .nil)) rfl ?_
 refine Jt (Z0 rfl) rfl ?_
 refine Jt (Z27 rfl) rfl ?_
 refine Jt (Z25 rfl) rfl ?_
 refine JO.alloc Z14 rfl fun b1 => ?_
 refine JO.m (Z4 rfl rfl (by repeat first | exact .here | apply Ut) (by exact Z1d rfl rfl) (by exact Z2s) Zl) (by rfl) ?_
 refine Jt (Z2 rfl) rfl ?_
 apply Ni
 repeat first | apply Nx | apply Nb
 refine Sl [1, 2] (.cons rfl (.cons rfl .nil)) ?_
 repeat apply Sq
 apply Pn
 refine Jt (Z2M rfl hP2 (fun F hF => by repeat (first | (rcases Mc.1 hF with rfl | hF; · (repeat first | exact Mh | apply Mt)) | (cases hF; done))) (.one rfl .nil)) rfl ?_
 refine Jt (Z0 rfl) rfl ?_
 refine Jt (Z27 rfl) rfl ?_
 refine Jt (Z25 rfl) rfl ?_
 refine JO.alloc Z14 rfl fun b3 => ?_
 refine JO.m (Z4 rfl rfl (by repeat first | exact .here | apply Ut) (by exact Z1d rfl rfl) (by exact Z2s) Zl) (by rfl) ?_
 refine Jt (Z2 rfl) rfl ?_
 apply Ni
 repeat first | apply Nx | apply Nb
 refine Sl [1, 2, 4] (.cons rfl (.cons rfl (.cons rfl .nil))) ?_
 refine J.front b1 (by repeat (first | exact .here | apply Front.there)) ?_
 refine J.openOwnSt fun vc vn vr vi vf vw vg vo vs h1c => ?_
 refine J.shapeE (xs := S1.items) (v := vi) (by repeat first | exact Mh | apply Mt) (fun pi ai li ci bi oi_ hpi hvi hli hai => ?_)
 refine J.shapeE (xs := S1.where_) (v := vw) (by repeat first | exact Mh | apply Mt) (fun pw aw lw cw bw ow_ hpw hvw hlw haw => ?_)
 refine J.pureF (F := CelF itE pi) (by repeat first | exact Mh | apply Mt) (fun pui => ?_)
 refine J.pureF (F := CelF exE pw) (by repeat first | exact Mh | apply Mt) (fun puw => ?_)
 subst hvi hvw
 rw [hy1] at hpi
 rw [hx1] at hpw
 have li1 : li = 1 := by rw [← hli, ← List.length_map (f := Cel.x), hpi]; rfl
 have lw1 : lw = 1 := by rw [← hlw, ← List.length_map (f := Cel.x), hpw]; rfl
 repeat apply Sq
 refine J.reg0 hmx (by kernel_rfl) (by kernel_rfl) ?_
 refine Rq (Z0 rfl) ?_
 refine Rq (Z1j rfl rfl) ?_
 refine Rq (Z0 rfl) ?_
 refine Rg rfl rfl rfl (fun hg => Z1 Z3N (.inl rfl)) ?_
 refine Rg rfl rfl rfl (fun hg => Z3 ZA (.inr ⟨_, rfl, id⟩) rfl) ?_
 refine Rg rfl rfl rfl (fun hg => Z1j (.inr ⟨_, rfl, id⟩) (.inl rfl)) ?_
 refine Rq (ZM rfl rfl rfl id) ?_
 refine Rq (Z0 rfl) ?_
 refine Rg rfl rfl rfl (fun hg => Z1 Z1n (.inl rfl)) ?_
 refine Rg rfl rfl rfl (fun hg => Z3 Z1q (.inr ⟨_, rfl, id⟩) rfl) ?_
 refine Rg rfl rfl rfl (fun hg => Zq Z1P (.inr ⟨_, rfl, id⟩)) ?_
 refine Rg rfl rfl rfl (fun hg => Z1j (.inr ⟨_, rfl, id⟩) (.inl rfl)) ?_
 refine Rq (ZM rfl rfl rfl id) ?_
 refine Rq (Z0 rfl) ?_
 refine Rg rfl rfl rfl (fun hg => Z1 Z1n (.inl rfl)) ?_
 refine Rg rfl rfl rfl (fun hg => Z3 Z1q (.inr ⟨_, rfl, id⟩) rfl) ?_
 refine Rg rfl rfl rfl (fun hg => Z8 Z2P (.inr ⟨_, rfl, id⟩) (hai (by omega)) (.inl rfl) (by omega) (by omega)) ?_
 refine Rg rfl rfl rfl (fun hg => Z1 Z5a (.inr ⟨_, rfl, id⟩)) ?_
 refine Rg rfl rfl rfl (fun hg => ZE (sz := 9) (i := 0) (j := 0) (enc := @Cel.cs _ itE) (y := pi[0]) (u := .bool y1.all) Z4E (.inr ⟨_, rfl, id⟩) (by repeat first | exact Mh | apply Mt) (hai (by omega)) (List.getElem?_eq_getElem (by omega : 0 < pi.length)) rfl (Z9m (l := [y1]) pui hpi (by omega) Nat.zero_lt_one)) ?_
 refine Rq (ZM rfl rfl rfl id) ?_
 refine Rq (Z0 rfl) ?_
 refine Rg rfl rfl rfl (fun hg => Z1 Z1x (.inl rfl)) ?_
 refine Rg rfl rfl rfl (fun hg => Z3 Zn (.inr ⟨_, rfl, id⟩) rfl) ?_
 refine Rg rfl rfl rfl (fun hg => Zq Zj (.inr ⟨_, rfl, id⟩)) ?_
 refine Rg rfl rfl rfl (fun hg => Z1j (.inr ⟨_, rfl, id⟩) (.inl rfl)) ?_
 refine Rq (ZM rfl rfl rfl id) ?_
 refine Rq (Z0 rfl) ?_
 refine Rg rfl rfl rfl (fun hg => Z1 Z1x (.inl rfl)) ?_
 refine Rg rfl rfl rfl (fun hg => Z3 Zn (.inr ⟨_, rfl, id⟩) rfl) ?_
 refine Rg rfl rfl rfl (fun hg => Z8 Z1C (.inr ⟨_, rfl, id⟩) (haw (by omega)) (.inl rfl) (by omega) (by omega)) ?_
 refine Rg rfl rfl rfl (fun hg => Z1 Z58 (.inr ⟨_, rfl, id⟩)) ?_
 refine Rg rfl rfl rfl (fun hg => ZE (sz := 8) (i := 0) (j := 0) (enc := @Cel.cs _ exE) (y := pw[0]) (u := .int .i64 x1.K) ZA (.inr ⟨_, rfl, id⟩) (by repeat first | exact Mh | apply Mt) (haw (by omega)) (List.getElem?_eq_getElem (by omega : 0 < pw.length)) rfl (Zg3 (l := [x1]) puw hpw (by omega) Nat.zero_lt_one)) ?_
 refine Rg rfl rfl rfl (fun hg => Z1j (.inr ⟨_, rfl, id⟩) (.inl rfl)) ?_
 refine Rq (ZM rfl rfl rfl id) ?_
 refine Rq (Z0 rfl) ?_
 refine Rg rfl rfl rfl (fun hg => Z1 Z23 (.inl rfl)) ?_
 refine Rg rfl rfl rfl (fun hg => Z3 ZA (.inr ⟨_, rfl, id⟩) rfl) ?_
 refine Rg rfl rfl rfl (fun hg => Z1j (.inr ⟨_, rfl, id⟩) (.inl rfl)) ?_
 refine Rq (ZM rfl rfl rfl id) ?_
 refine Rq (Z0 rfl) ?_
 refine Rg rfl rfl rfl (fun hg => Z0 (.inl rfl)) ?_
 refine Rg rfl rfl rfl (fun hg => Z1j (.inr ⟨_, rfl, id⟩) (.inl rfl)) ?_
 refine Rq (ZM rfl rfl rfl id) ?_
 refine Rq (Z2 rfl) ?_
 apply Rn
 refine FinS.nil0 ?_
 repeat first | apply Nx | apply Nb
 refine Sl [0] (.cons rfl .nil) ?_
 repeat apply Sq
 apply Rt
 repeat first | apply Rp | apply Rb
 exact JX.ret1is rfl rfl (by simp [hk1, li1, hy2, lw1, hx2, hlim])
end Go.Proofs.YtbedigkncjbggaaGreatDoor
set_option maxRecDepth 20000
namespace Go.Proofs.YtbedigkncjbggaaGreatDoor
open Go Go.Vc Go.Pz
abbrev tDel : List UInt8 := [100, 101, 108, 101, 116, 101, 32, 102, 114, 111, 109, 32, 116, 32, 119, 104, 101, 114, 101]
abbrev tSel : List UInt8 := [115, 101, 108, 101, 99, 116]
abbrev tIns : List UInt8 := [105, 110, 115, 101, 114, 116, 32, 105, 110, 116, 111, 32, 116, 32, 118, 97, 108, 117, 101, 115]
abbrev tUpd : List UInt8 := [117, 112, 100, 97, 116, 101, 32, 116, 32, 115, 101, 116, 32, 120, 32, 61]
abbrev tFrm : List UInt8 := [32, 102, 114, 111, 109, 32, 116]
end Go.Proofs.YtbedigkncjbggaaGreatDoor
set_option maxRecDepth 20000
namespace Go.Proofs.YtbedigkncjbggaaGreatDoor
open Go Go.Vc
open Go.Pz
theorem ZdA {ts : List T3} (h : (readT ts).2 ≠ 0) : (readT ts).1 = st0 := by
  unfold readT at h ⊢
  split
  · rfl
  · rename_i s hs
    rw [hs] at h
    dsimp only at h ⊢
    split
    · rfl
    · rename_i hd; rw [if_neg hd] at h; exact absurd rfl h
theorem ZcG {l : List UInt8} (h : (prS l).2 ≠ 0) : (prS l).1 = st0 := by
 by_cases he : (lexL l).2 = 0
 · rw [Zb8 he] at h ⊢; exact ZdA h
 · rw [ZcE he]
theorem ZgX (l : List UInt8) : SmS (prS l).1 ∧ ∀ x ∈ exsOf (prS l).1, ect x ≤ 4096 := by
  by_cases h : (prS l).2 = 0
  · have he := ZeA h
    rw [Zb8 he] at h ⊢
    obtain ⟨s, r, h1, _, _, h4⟩ := ZaK h
    rw [h4]
    refine ⟨ZaH h1, fun x hx => ?_⟩
    have := ZcP (Z30 _) (Z9h _) (Nat.le_refl _) h1 x hx
    have := Zaw l
    omega
  · rw [ZcG h]
    refine ⟨⟨Nat.zero_le _, (fun x hx => by cases hx), Nat.zero_le _, Nat.zero_le _, (fun x hx => by cases hx), Nat.zero_le _, Nat.zero_le _, Nat.zero_le _, Nat.zero_le _, Nat.zero_le _, Nat.zero_le _⟩, fun x hx => by simp [exsOf, st0] at hx⟩
end Go.Proofs.YtbedigkncjbggaaGreatDoor
set_option maxRecDepth 20000
namespace Go.Proofs.YtbedigkncjbggaaGreatDoor
open Go Go.Vc
open Go.Pz
theorem ZfI {l : List UInt8} (h : (prS l).2 = 0) {x : Ex} (hx : x ∈ exsOf (prS l).1) : ¬ 32 < hgt x := by
 have he := ZeA h
 rw [Zb8 he] at h hx
 obtain ⟨s, r, _, _, h3, h4⟩ := ZaK h
 rw [h4] at hx
 have := List.any_eq_false.1 h3 x hx
 simpa using this
set_option maxHeartbeats 2000000 in
theorem Z7W (s : ByteArray) (hsz : s.data.toList.length ≤ 140737488351232) : CallF Tryz.prog Z7R [NH 0, GF, AF] [.is (.string s)] (.is (.bool true)) :=
CallF.of (fn := Tryz.f7) Tryz.func7 (n := 92) rfl rfl rfl (fun _ _ => by kernel_rfl) fun E W => by
  have hs1 := ZgX s.data.toList
  have hPN := fun N => c_PF N s
  have hbad := fun h => ZcG (l := s.data.toList) h
  have hhg := fun h => fun x hx => ZfI (l := s.data.toList) h (x := x) hx
  have hxl := Z9Q hs1.1
  generalize prS s.data.toList = p at hs1 hPN hbad hhg hxl
  repeat apply Sq
  apply Pn
  refine Jt (Z2 rfl) rfl ?_
  apply Ni
  repeat first | apply Nx | apply Nb
  refine Sl [0] (.cons rfl .nil) ?_
  repeat apply Sq
  apply Pn
  refine Jt (Z2M rfl Za9 (fun F hF => by repeat (first | (rcases Mc.1 hF with rfl | hF; · (repeat first | exact Mh | apply Mt)) | (cases hF; done))) .nil) rfl ?_
  refine Jt (Z5J rfl) rfl ?_
  apply Ni
  repeat first | apply Nx | apply Nb
  refine Sl [0, 15] (.cons rfl (.cons rfl .nil)) ?_
  repeat apply Sq
  refine Cd rfl (fun ht15 => ?_) (fun ht15 => ?_)
  ·
    try simp only [dT, dF] at ht15
    repeat apply Sq
    apply Pn
    refine Jt (Z2 rfl) rfl ?_
    apply Ni
    repeat first | apply Nx | apply Nb
    refine Sl [2] (.cons rfl .nil) ?_
    repeat apply Sq
    apply Rt
    repeat first | apply Rp | apply Rb
    exact JX.ret1is rfl rfl (by exact absurd ht15 (by decide))
  ·
    try simp only [dT, dF] at ht15
    apply Sk
    repeat first | apply Nx | apply Nb
    repeat apply Sq
    apply Pn
    refine Jt (Z0 rfl) rfl ?_
    refine Jt (Z2M rfl (hPN 0) (fun F hF => by repeat (first | (rcases Mc.1 hF with rfl | hF; · (repeat first | exact Mh | apply Mt)) | (cases hF; done))) (.one rfl .nil)) rfl ?_
    refine Jt (Z0 rfl) rfl ?_
    refine Jt (Z27 rfl) rfl ?_
    refine Jt (Z25 rfl) rfl ?_
    refine JO.alloc Z14 rfl fun b3 => ?_
    refine JO.m (Z4 rfl rfl (by repeat first | exact .here | apply Ut) (by exact Z1d rfl rfl) (by exact Z2s) Zl) (by rfl) ?_
    refine Jt (Z2 rfl) rfl ?_
    apply Ni
    repeat first | apply Nx | apply Nb
    refine Sl [0, 3, 4] (.cons rfl (.cons rfl (.cons rfl .nil))) ?_
    repeat apply Sq
    apply Pn
    refine Jt (Z0 rfl) rfl ?_
    refine Jt (Z1N rfl rfl) rfl ?_
    apply Ni
    repeat first | apply Nx | apply Nb
    refine Sl [0, 3, 22] (.cons rfl (.cons rfl (.cons rfl .nil))) ?_
    repeat apply Sq
    refine Cd rfl (fun ht22 => ?_) (fun ht22 => ?_)
    ·
      try simp only [dT, dF] at ht22
      refine J.front b3 (by repeat (first | exact .here | apply Front.there)) ?_
      refine J.openOwnSt fun vc vn vr vi vf vw vg vo vs h1c => ?_
      have hz : p.1 = st0 := hbad (by simpa using ht22)
      repeat apply Sq
      apply Pn
      refine Jt (ZJ (cs := [_, _, _, _, _, _, _, _, _, _, _, _, _, _]) Z9 rfl rfl rfl) rfl ?_
      refine Jt (Zv (cs := [_, _, _, _, _, _, _, _, _, _, _, _, _, _]) Z1R .nil rfl rfl) rfl ?_
      refine Jt (ZI rfl (Z7O 0 0 p.1 hs1.1 hs1.2) (.sub rfl (Sub.st rfl fun X w hf w' hk => ⟨hf _ (by repeat first | exact Mh | apply Mt) w' hk, hf _ (by repeat first | exact Mh | apply Mt) w' hk, hf _ (by repeat first | exact Mh | apply Mt) w' hk, hf _ (by repeat first | exact Mh | apply Mt) w' hk, hf _ (by repeat first | exact Mh | apply Mt) w' hk, hf _ (by repeat first | exact Mh | apply Mt) w' hk, hf _ (by repeat first | exact Mh | apply Mt) w' hk, hf _ (by repeat first | exact Mh | apply Mt) w' hk, hf _ (by repeat first | exact Mh | apply Mt) w' hk⟩) (.sub rfl (by rw [hz]; exact SrZero) .nil))) rfl ?_
      refine Jt (Z2 rfl) rfl ?_
      apply Ni
      repeat first | apply Nx | apply Nb
      refine Sl [2] (.cons rfl .nil) ?_
      repeat apply Sq
      apply Rt
      repeat first | apply Rp | apply Rb
      exact JX.ret1is rfl rfl (rfl)
    ·
      try simp only [dT, dF] at ht22
      apply Sk
      repeat first | apply Nx | apply Nb
      refine J.front b3 (by repeat (first | exact .here | apply Front.there)) ?_
      refine J.openOwnSt fun vc vn vr vi vf vw vg vo vs h1c => ?_
      have hq0 : p.2 = 0 := by simpa using ht22
      refine J.mark (fun E0 w0 hW0 hP0 => ?_)
      repeat apply Sq
      apply Pn
      refine Jt (Z0 rfl) rfl ?_
      refine Jt (Z2M rfl (hPN w0.heap.size) (fun F hF => by repeat (first | (rcases Mc.1 hF with rfl | hF; · (repeat first | exact Mh | apply Mt)) | (cases hF; done))) (.one rfl .nil)) rfl ?_
      refine Jt (Z0 rfl) rfl ?_
      refine Jt (Z27 rfl) rfl ?_
      refine Jt (Z25 rfl) rfl ?_
      refine JO.alloc Z14 rfl fun b5 => ?_
      refine JO.m (Z4 rfl rfl (by repeat first | exact .here | apply Ut) (by exact Z1d rfl rfl) (by exact Z2s) Zl) (by rfl) ?_
      refine Jt (Z2 rfl) rfl ?_
      apply Ni
      repeat first | apply Nx | apply Nb
      refine Sl [0, 3, 5] (.cons rfl (.cons rfl (.cons rfl .nil))) ?_
      repeat apply Sq
      apply Pn
      refine Jt (ZJ (cs := [_, _, _, _, _, _, _, _, _, _, _, _, _, _]) Z9 rfl rfl rfl) rfl ?_
      refine Jt (ZI rfl (Z6n 0 p.1 hs1.1) (.sub rfl (Sub.st rfl fun X w hf w' hk => ⟨hf _ (by repeat first | exact Mh | apply Mt) w' hk, hf _ (by repeat first | exact Mh | apply Mt) w' hk, hf _ (by repeat first | exact Mh | apply Mt) w' hk, hf _ (by repeat first | exact Mh | apply Mt) w' hk, hf _ (by repeat first | exact Mh | apply Mt) w' hk, hf _ (by repeat first | exact Mh | apply Mt) w' hk, hf _ (by repeat first | exact Mh | apply Mt) w' hk, hf _ (by repeat first | exact Mh | apply Mt) w' hk, hf _ (by repeat first | exact Mh | apply Mt) w' hk⟩) .nil)) rfl ?_
      refine Jt (Z2 rfl) rfl ?_
      apply Ni
      repeat first | apply Nx | apply Nb
      refine Sl [0, 3, 5, 7] (.cons rfl (.cons rfl (.cons rfl (.cons rfl .nil)))) ?_
      repeat apply Sq
      apply Pn
      refine Jt (Z2 rfl) rfl ?_
      apply Ni
      repeat first | apply Nx | apply Nb
      refine Sl [0, 3, 5, 7, 8] (.cons rfl (.cons rfl (.cons rfl (.cons rfl (.cons rfl .nil))))) ?_
      repeat apply Sq
      apply Bk
      repeat apply Sq
      refine J.openExs (s := 7) rfl (fun al ll cl bl ol hll hal => ?_)
      refine J.loopF (α := Nat) (fun k => [(0, _), (3, _), (5, _), (7, .is (.slice al ll cl)), (8, .is (.int .i64 (k : Nat)))]) (fun k => k ≤ ll) (fun k => ll - k) 0 [0, 3, 5, 7, 8] (.cons rfl (.cons rfl (.cons rfl (.cons rfl (.cons rfl .nil))))) (Nat.zero_le _) fun i hi => ?_
      repeat apply Sq
      apply Pn
      refine Jt (Z0 rfl) rfl ?_
      refine Jt (Z0 rfl) rfl ?_
      refine Jt (Zq Zj rfl) rfl ?_
      refine Jt (Z15 rfl rfl) rfl ?_
      apply Ni
      repeat first | apply Nx | apply Nb
      refine Sl [0, 3, 5, 7, 8, 36] (.cons rfl (.cons rfl (.cons rfl (.cons rfl (.cons rfl (.cons rfl .nil)))))) ?_
      repeat apply Sq
      refine Cd rfl (fun ht36 => ?_) (fun ht36 => ?_)
      ·
        try simp only [dT, dF] at ht36
        apply Sk
        repeat first | apply Nx | apply Nb
        repeat apply Sq
        apply Bk
        repeat apply Sq
        apply Pn
        refine Jt (Z0 rfl) rfl ?_
        refine Jt (Z0 rfl) rfl ?_
        refine Jt (Z8 Z1C rfl (hal (by omega)) rfl (by omega) (by omega)) rfl ?_
        refine Jt (Z3y (i := i) (kid := (exsOf p.1).getD i ex0) Zd rfl (by repeat first | exact Mh | apply Mt) (hal (by omega)) (Z4I (by omega)) (by omega)) rfl ?_
        refine Jt (ZI rfl (Z6J 4096 ((exsOf p.1).getD i ex0) (hs1.2 _ (Z3j (by omega))) (hs1.2 _ (Z3j (by omega)))) (.one rfl .nil)) rfl ?_
        refine Jt (Z2t rfl rfl) rfl ?_
        apply Ni
        repeat first | apply Nx | apply Nb
        refine Sl [0, 3, 5, 7, 8, 44] (.cons rfl (.cons rfl (.cons rfl (.cons rfl (.cons rfl (.cons rfl .nil)))))) ?_
        repeat apply Sq
        refine Cd rfl (fun ht44 => ?_) (fun ht44 => ?_)
        ·
          try simp only [dT, dF] at ht44
          repeat apply Sq
          apply Pn
          refine Jt (Z2 rfl) rfl ?_
          apply Ni
          repeat first | apply Nx | apply Nb
          refine Sl [2] (.cons rfl .nil) ?_
          repeat apply Sq
          apply Rt
          repeat first | apply Rp | apply Rb
          exact JX.ret1is rfl rfl (by exact absurd ht44 (by have := hhg hq0 _ (Z3j (xs := exsOf p.1) (i := i) (by omega)); omega))
        ·
          try simp only [dT, dF] at ht44
          apply Sk
          repeat first | apply Nx | apply Nb
          repeat apply Sq
          apply Pn
          refine Jt (Z0 rfl) rfl ?_
          refine Jt (Zz (cc := ((i + 1 : Nat) : Int)) rfl rfl (by omega) (by omega) (by omega)) rfl ?_
          refine Jt (Z2 rfl) rfl ?_
          apply Ni
          repeat refine JX.normal_block ?_
          refine JX.roundS (i + 1) ?_ ?_ [0, 3, 5, 7, 8] ?_ ?_ ?_
          · exact (by omega)
          · exact (by omega)
          · exact (.cons rfl (.cons rfl (.cons rfl (.cons rfl (.cons rfl .nil)))))
          · repeat (first | exact .slnil | exact List.Sublist.refl _ | apply List.Sublist.cons_cons | apply List.Sublist.cons)
          · repeat (first | exact .slnil | exact List.Sublist.refl _ | apply List.Sublist.cons_cons | apply List.Sublist.cons)
      ·
        try simp only [dT, dF] at ht36
        repeat apply Sq
        refine J.exit ?_
        repeat first | refine Ht ?_ | refine Ms rfl ?_ | refine Ep ?_
        repeat first | apply Nx | apply Nb
        refine J.front b5 (by repeat (first | exact .here | apply Front.there)) ?_
        refine J.openOwnSt fun vcz vnz vrz viz vfz vwz vgz voz vsz h1cz => ?_
        refine J.shapeEG (xs := p.1.names) (v := vnz) (by repeat first | exact Mh | apply Mt) (fun pn an ln cn bn on_ hpn hvn hln hcn han => ?_)
        refine J.shapeEG (xs := p.1.where_) (v := vwz) (by repeat first | exact Mh | apply Mt) (fun pw aw lw cw bw ow_ hpw hvw hlw hcw haw => ?_)
        refine J.shapeEG (xs := p.1.cols) (v := vcz) (by repeat first | exact Mh | apply Mt) (fun pc ac lc cc bc oc_ hpc hvc hlc hcc hac => ?_)
        subst hvn hvw hvc
        have nn : ln = p.1.names.length := by rw [← hln, ← hpn, List.length_map]
        have nw : lw = p.1.where_.length := by rw [← hlw, ← hpw, List.length_map]
        have nc : lc = p.1.cols.length := by rw [← hlc, ← hpc, List.length_map]
        have hsm := hs1.1
        obtain ⟨hb1, hb2, hb3, hb4, hb5, hb6, hb7, hb8, hb9, hb10, hb11⟩ := hsm
        refine J.subΦ (Φ' := [Keeps E0 w0, FreshW w0.heap.size ZG an ln cn 1, FreshW w0.heap.size Z6 aw lw cw 8, FreshW w0.heap.size ZH ac lc cc 4, SlE coE (FC 0) p.1.cols vc, SlE stE (FN 0) p.1.names vn, SlE rwE noS p.1.rows vr, SlE itE noS p.1.items vi, SlE srE noS p.1.from_ vf, SlE exE (FX 0) p.1.where_ vw, ExsR p.1.group vg, SlE kyE noS p.1.order vo, ExsR p.1.sets vs, NH 0, GF, AF]) (fun F hF => by repeat (first | (rcases Mc.1 hF with rfl | hF; · (repeat first | exact Mh | apply Mt)) | (cases hF; done))) ?_
        repeat apply Sq
        apply Pn
        refine Jt (Z2 rfl) rfl ?_
        apply Ni
        repeat first | apply Nx | apply Nb
        refine Sl [0, 3, 5, 9] (.cons rfl (.cons rfl (.cons rfl (.cons rfl .nil)))) ?_
        repeat apply Sq
        apply Bk
        repeat apply Sq
        refine J.loopF (α := Nat) (fun k => [(0, _), (3, _), (5, _), (9, .is (.int .i64 (k : Nat)))]) (fun k => k ≤ ln) (fun k => ln - k) 0 [0, 3, 5, 9] (.cons rfl (.cons rfl (.cons rfl (.cons rfl .nil)))) (Nat.zero_le _) fun i hi => ?_
        repeat apply Sq
        apply Pn
        refine Jt (Z0 rfl) rfl ?_
        refine Jt (Z1 Z1A rfl) rfl ?_
        refine Jt (Z3 Z2u rfl rfl) rfl ?_
        refine Jt (Zq Z1J rfl) rfl ?_
        refine Jt (Z15 rfl rfl) rfl ?_
        apply Ni
        repeat first | apply Nx | apply Nb
        refine Sl [0, 3, 5, 9, 49] (.cons rfl (.cons rfl (.cons rfl (.cons rfl (.cons rfl .nil))))) ?_
        repeat apply Sq
        refine Cd rfl (fun ht49 => ?_) (fun ht49 => ?_)
        ·
          try simp only [dT, dF] at ht49
          apply Sk
          repeat first | apply Nx | apply Nb
          repeat apply Sq
          apply Bk
          have haz := han (by omega)
          subst haz
          repeat apply Sq
          apply Pn
          refine Jt (Z1 Z1A rfl) rfl ?_
          refine Jt (Z3 Z2u rfl rfl) rfl ?_
          refine Jt (Z0 rfl) rfl ?_
          refine Jt (Z8 Z2r rfl rfl rfl (by omega) (by omega)) rfl ?_
          refine JO.claimFr (e := ZG) (len := ln) (cap := cn) (sz := 1) (by omega) hW0 rfl rfl (by repeat first | exact Mh | apply Mt) (by repeat first | exact Mh | apply Mt) (fun F hF => by repeat (first | (rcases Mc.1 hF with rfl | hF; · first | exact .inl rfl | exact .inr (.inl Z7U) | exact .inr (.inl Z8N) | exact .inr (.inr (hP0 _ (by repeat first | exact Mh | apply Mt)))) | (cases hF; done))) (fun cs ho hcs => ?_)
          subst ho
          refine JO.m (Z6o rfl rfl rfl rfl .here rfl (by rw [Nat.ble_eq, hcs]; simp only [Int.toNat_natCast]; omega) Z2X) (by rfl) ?_
          apply Ni
          repeat first | apply Nx | apply Nb
          refine Sl [0, 3, 5, 9] (.cons rfl (.cons rfl (.cons rfl (.cons rfl .nil)))) ?_
          repeat apply Sq
          apply Pn
          refine Jt (Z0 rfl) rfl ?_
          refine Jt (Zz (cc := ((i + 1 : Nat) : Int)) rfl rfl (by omega) (by omega) (by omega)) rfl ?_
          refine Jt (Z2 rfl) rfl ?_
          apply Ni
          repeat refine JX.normal_block ?_
          refine JX.roundS (i + 1) ?_ ?_ [0, 3, 5, 9] ?_ ?_ ?_
          · exact (by omega)
          · exact (by omega)
          · exact (.cons rfl (.cons rfl (.cons rfl (.cons rfl .nil))))
          · repeat (first | exact .slnil | exact List.Sublist.refl _ | apply List.Sublist.cons_cons | apply List.Sublist.cons)
          · repeat (first | exact .slnil | exact List.Sublist.refl _ | apply List.Sublist.cons_cons | apply List.Sublist.cons)
        ·
          try simp only [dT, dF] at ht49
          repeat apply Sq
          refine J.exit ?_
          repeat first | refine Ht ?_ | refine Ms rfl ?_ | refine Ep ?_
          repeat first | apply Nx | apply Nb
          repeat apply Sq
          apply Pn
          refine Jt (Z2 rfl) rfl ?_
          apply Ni
          repeat first | apply Nx | apply Nb
          refine Sl [0, 3, 5, 10] (.cons rfl (.cons rfl (.cons rfl (.cons rfl .nil)))) ?_
          repeat apply Sq
          apply Bk
          repeat apply Sq
          refine J.loopF (α := Nat) (fun k => [(0, _), (3, _), (5, _), (10, .is (.int .i64 (k : Nat)))]) (fun k => k ≤ lw) (fun k => lw - k) 0 [0, 3, 5, 10] (.cons rfl (.cons rfl (.cons rfl (.cons rfl .nil)))) (Nat.zero_le _) fun i hi => ?_
          repeat apply Sq
          apply Pn
          refine Jt (Z0 rfl) rfl ?_
          refine Jt (Z1 Z1x rfl) rfl ?_
          refine Jt (Z3 Zn rfl rfl) rfl ?_
          refine Jt (Zq Zj rfl) rfl ?_
          refine Jt (Z15 rfl rfl) rfl ?_
          apply Ni
          repeat first | apply Nx | apply Nb
          refine Sl [0, 3, 5, 10, 60] (.cons rfl (.cons rfl (.cons rfl (.cons rfl (.cons rfl .nil))))) ?_
          repeat apply Sq
          refine Cd rfl (fun ht60 => ?_) (fun ht60 => ?_)
          ·
            try simp only [dT, dF] at ht60
            apply Sk
            repeat first | apply Nx | apply Nb
            repeat apply Sq
            apply Bk
            have haz := haw (by omega)
            subst haz
            repeat apply Sq
            apply Pn
            refine Jt (Z1 Z1x rfl) rfl ?_
            refine Jt (Z3 Zn rfl rfl) rfl ?_
            refine Jt (Z0 rfl) rfl ?_
            refine Jt (Z8 Z1C rfl rfl rfl (by omega) (by omega)) rfl ?_
            refine Jt (Z1 Z2C rfl) rfl ?_
            refine JO.claimFr (e := Z6) (len := lw) (cap := cw) (sz := 8) (by omega) hW0 rfl rfl (by repeat first | exact Mh | apply Mt) (by repeat first | exact Mh | apply Mt) (fun F hF => by repeat (first | (rcases Mc.1 hF with rfl | hF; · first | exact .inl rfl | exact .inr (.inl Z7U) | exact .inr (.inl Z8N) | exact .inr (.inr (hP0 _ (by repeat first | exact Mh | apply Mt)))) | (cases hF; done))) (fun cs ho hcs => ?_)
            subst ho
            refine JO.m (Z6o rfl rfl rfl rfl .here rfl (by rw [Nat.ble_eq, hcs]; simp only [Int.toNat_natCast]; omega) Z2o) (by rfl) ?_
            apply Ni
            repeat first | apply Nx | apply Nb
            refine Sl [0, 3, 5, 10] (.cons rfl (.cons rfl (.cons rfl (.cons rfl .nil)))) ?_
            repeat apply Sq
            apply Pn
            refine Jt (Z0 rfl) rfl ?_
            refine Jt (Zz (cc := ((i + 1 : Nat) : Int)) rfl rfl (by omega) (by omega) (by omega)) rfl ?_
            refine Jt (Z2 rfl) rfl ?_
            apply Ni
            repeat refine JX.normal_block ?_
            refine JX.roundS (i + 1) ?_ ?_ [0, 3, 5, 10] ?_ ?_ ?_
            · exact (by omega)
            · exact (by omega)
            · exact (.cons rfl (.cons rfl (.cons rfl (.cons rfl .nil))))
            · repeat (first | exact .slnil | exact List.Sublist.refl _ | apply List.Sublist.cons_cons | apply List.Sublist.cons)
            · repeat (first | exact .slnil | exact List.Sublist.refl _ | apply List.Sublist.cons_cons | apply List.Sublist.cons)
          ·
            try simp only [dT, dF] at ht60
            repeat apply Sq
            refine J.exit ?_
            repeat first | refine Ht ?_ | refine Ms rfl ?_ | refine Ep ?_
            repeat first | apply Nx | apply Nb
            repeat apply Sq
            apply Pn
            refine Jt (Z2 rfl) rfl ?_
            apply Ni
            repeat first | apply Nx | apply Nb
            refine Sl [0, 3, 5, 11] (.cons rfl (.cons rfl (.cons rfl (.cons rfl .nil)))) ?_
            repeat apply Sq
            apply Bk
            repeat apply Sq
            refine J.loopF (α := Nat) (fun k => [(0, _), (3, _), (5, _), (11, .is (.int .i64 (k : Nat)))]) (fun k => k ≤ lc) (fun k => lc - k) 0 [0, 3, 5, 11] (.cons rfl (.cons rfl (.cons rfl (.cons rfl .nil)))) (Nat.zero_le _) fun i hi => ?_
            repeat apply Sq
            apply Pn
            refine Jt (Z0 rfl) rfl ?_
            refine Jt (Z1 Z21 rfl) rfl ?_
            refine Jt (Z3 Z1M rfl rfl) rfl ?_
            refine Jt (Zq Z24 rfl) rfl ?_
            refine Jt (Z15 rfl rfl) rfl ?_
            apply Ni
            repeat first | apply Nx | apply Nb
            refine Sl [0, 3, 5, 11, 72] (.cons rfl (.cons rfl (.cons rfl (.cons rfl (.cons rfl .nil))))) ?_
            repeat apply Sq
            refine Cd rfl (fun ht72 => ?_) (fun ht72 => ?_)
            ·
              try simp only [dT, dF] at ht72
              apply Sk
              repeat first | apply Nx | apply Nb
              repeat apply Sq
              apply Bk
              have haz := hac (by omega)
              subst haz
              repeat apply Sq
              apply Pn
              refine Jt (Z1 Z21 rfl) rfl ?_
              refine Jt (Z3 Z1M rfl rfl) rfl ?_
              refine Jt (Z0 rfl) rfl ?_
              refine Jt (Z8 Z3V rfl rfl rfl (by omega) (by omega)) rfl ?_
              refine Jt (Z1 Z8S rfl) rfl ?_
              refine JO.claimFr (e := ZH) (len := lc) (cap := cc) (sz := 4) (by omega) hW0 rfl rfl (by repeat first | exact Mh | apply Mt) (by repeat first | exact Mh | apply Mt) (fun F hF => by repeat (first | (rcases Mc.1 hF with rfl | hF; · first | exact .inl rfl | exact .inr (.inl Z7U) | exact .inr (.inl Z8N) | exact .inr (.inr (hP0 _ (by repeat first | exact Mh | apply Mt)))) | (cases hF; done))) (fun cs ho hcs => ?_)
              subst ho
              refine JO.m (Z6o rfl rfl rfl rfl .here rfl (by rw [Nat.ble_eq, hcs]; simp only [Int.toNat_natCast]; omega) Z2X) (by rfl) ?_
              apply Ni
              repeat first | apply Nx | apply Nb
              refine Sl [0, 3, 5, 11] (.cons rfl (.cons rfl (.cons rfl (.cons rfl .nil)))) ?_
              repeat apply Sq
              apply Pn
              refine Jt (Z0 rfl) rfl ?_
              refine Jt (Zz (cc := ((i + 1 : Nat) : Int)) rfl rfl (by omega) (by omega) (by omega)) rfl ?_
              refine Jt (Z2 rfl) rfl ?_
              apply Ni
              repeat refine JX.normal_block ?_
              refine JX.roundS (i + 1) ?_ ?_ [0, 3, 5, 11] ?_ ?_ ?_
              · exact (by omega)
              · exact (by omega)
              · exact (.cons rfl (.cons rfl (.cons rfl (.cons rfl .nil))))
              · repeat (first | exact .slnil | exact List.Sublist.refl _ | apply List.Sublist.cons_cons | apply List.Sublist.cons)
              · repeat (first | exact .slnil | exact List.Sublist.refl _ | apply List.Sublist.cons_cons | apply List.Sublist.cons)
            ·
              try simp only [dT, dF] at ht72
              repeat apply Sq
              refine J.exit ?_
              repeat first | refine Ht ?_ | refine Ms rfl ?_ | refine Ep ?_
              repeat first | apply Nx | apply Nb
              repeat apply Sq
              apply Pn
              refine Jt (Z0 rfl) rfl ?_
              refine Jt (Z2M rfl (hPN 0) (fun F hF => by repeat (first | (rcases Mc.1 hF with rfl | hF; · (repeat first | exact Mh | apply Mt)) | (cases hF; done))) (.one rfl .nil)) rfl ?_
              refine Jt (Z0 rfl) rfl ?_
              refine Jt (Z27 rfl) rfl ?_
              refine Jt (Z25 rfl) rfl ?_
              refine JO.alloc Z14 rfl fun b12 => ?_
              refine JO.m (Z4 rfl rfl (by repeat first | exact .here | apply Ut) (by exact Z1d rfl rfl) (by exact Z2s) Zl) (by rfl) ?_
              refine Jt (Z2 rfl) rfl ?_
              apply Ni
              repeat first | apply Nx | apply Nb
              refine Sl [3, 12, 13] (.cons rfl (.cons rfl (.cons rfl .nil))) ?_
              refine J.front b12 (by repeat (first | exact .here | apply Front.there)) ?_
              refine J.openOwnSt fun vcx vnx vrx vix vfx vwx vgx vox vsx h1cx => ?_
              repeat apply Sq
              refine J.reg0 hmx (by kernel_rfl) (by kernel_rfl) ?_
              refine Rq (Z0 rfl) ?_
              refine Rq (Z1j rfl rfl) ?_
              refine Rq (Z0 rfl) ?_
              refine Rg rfl rfl rfl (fun hg => ZJ (cs := [_, _, _, _, _, _, _, _, _, _, _, _, _, _]) Z9 (.inl rfl) rfl rfl) ?_
              refine Rg rfl rfl rfl (fun hg => ZJ (cs := [_, _, _, _, _, _, _, _, _, _, _, _, _, _]) Z9 (.inl rfl) rfl rfl) ?_
              refine Rg rfl rfl rfl (fun hg => ZI (.inl rfl) (Z7O 0 0 p.1 hs1.1 hs1.2) (.sub (.inr ⟨_, rfl, id⟩) (Sub.st rfl fun X w hf w' hk => ⟨hf _ (by repeat first | exact Mh | apply Mt) w' hk, hf _ (by repeat first | exact Mh | apply Mt) w' hk, hf _ (by repeat first | exact Mh | apply Mt) w' hk, hf _ (by repeat first | exact Mh | apply Mt) w' hk, hf _ (by repeat first | exact Mh | apply Mt) w' hk, hf _ (by repeat first | exact Mh | apply Mt) w' hk, hf _ (by repeat first | exact Mh | apply Mt) w' hk, hf _ (by repeat first | exact Mh | apply Mt) w' hk, hf _ (by repeat first | exact Mh | apply Mt) w' hk⟩) (.sub (.inr ⟨_, rfl, id⟩) (Sub.st rfl fun X w hf w' hk => ⟨hf _ (by repeat first | exact Mh | apply Mt) w' hk, hf _ (by repeat first | exact Mh | apply Mt) w' hk, hf _ (by repeat first | exact Mh | apply Mt) w' hk, hf _ (by repeat first | exact Mh | apply Mt) w' hk, hf _ (by repeat first | exact Mh | apply Mt) w' hk, hf _ (by repeat first | exact Mh | apply Mt) w' hk, hf _ (by repeat first | exact Mh | apply Mt) w' hk, hf _ (by repeat first | exact Mh | apply Mt) w' hk, hf _ (by repeat first | exact Mh | apply Mt) w' hk⟩) .nil))) ?_
              refine Rq (ZM rfl rfl rfl id) ?_
              refine Rq (Z2 rfl) ?_
              apply Rn
              refine FinS.nil0 ?_
              repeat first | apply Nx | apply Nb
              refine Sl [2] (.cons rfl .nil) ?_
              repeat apply Sq
              apply Rt
              repeat first | apply Rp | apply Rb
              exact JX.ret1is rfl rfl (by simp [hq0])
end Go.Proofs.YtbedigkncjbggaaGreatDoor
set_option maxRecDepth 100000
namespace Go.Proofs.YtbedigkncjbggaaGreatDoor
open Go Go.Vc Go.Shelf Go.ChangeShapes Go.WideShapes Go.ChangeAt Go.RowKit
theorem own : ownKnob Tryz.prog.godebug = none := by kernel_rfl
theorem laidOut : laidOutB Tryz.prog = true := by kernel_rfl
def litCells : DataW Unit → Array Value
 | .agg l => (l.map fun | .lit (.int k z) => Value.int k z | _ => undef).toArray
 | _ => #[]
def accCells : Array Value := ((List.range 16).flatMap fun i => [Value.int .u8 (Lib.accLo i), Value.int .u8 (Lib.accHi i)]).toArray
def wsCells : Array Value := ([9, 13, 1, 32, 133, 101, 160, 5760, 5600, 8192, 8202, 1, 8232, 8233, 1, 8239, 8287, 48, 12288, 12288, 1].map fun z => Value.int .u16 z).toArray
noncomputable def laidWorld (os : Os) : World :=
 let N := (World.settled Tryz.prog os).heap.size
 let w0 := World.holding Tryz.prog os ⟨#[.cells Lib.caseCells5 (Z3G.t 208), .cells #[.slice (some ⟨N + 2, 0, none⟩) 7 7, .slice none 0 0, .int .i64 2] 217, .cells wsCells 220], #[], []⟩
 let put (h : Array Obj) (g : Nat) (cs : Array Value) : Array Obj := h.modify g fun
  | .cells _ t frozen => .cells cs t frozen
  | o => o
 let h0 := put w0.heap 0 (litCells Rows.laid_strings_asciiSpace)
 let h3 := put h0 3 #[.slice (some ⟨N, 0, none⟩) 336 336]
 let h4 := put h3 4 #[.pointer (some ⟨N + 1, 0, none⟩)]
 let h5 := put h4 5 (Lib.firstTab.map fun z => Value.int .u8 z).toArray
 let h6 := put h5 6 accCells
 let h2 := put h6 2 (litCells Rows.laid_internal_strconv_uint64pow10)
 let h7 := put h2 7 (litCells Rows.laid_math_bits_deBruijn32tab)
 let h8 := put h7 8 (litCells Rows.laid_math_bits_deBruijn64tab)
 { w0 with heap := h8 }
noncomputable abbrev N0 : Nat := (World.settled Tryz.prog default).heap.size
noncomputable abbrev LW (os : Os) (args : Array Value) : World := ((laidWorld os).forCall (fun _ _ => 0) ⟨#[], args, []⟩).memory
theorem Ze0 (os : Os) (args : Array Value) : LaidIn Tryz.prog (LW os args) [("unicode/utf8.acceptRanges", Rows.laid_unicode_utf8_acceptRanges)] [6] :=
 LaidIn.of_run [6] 8 (by kernel_rfl) (by kernel_rfl) (by kernel_rfl) (by kernel_rfl)
theorem ZbT (os : Os) (args : Array Value) : LaidIn Tryz.prog (LW os args) [("unicode/utf8.first", Rows.laid_unicode_utf8_first)] [5] :=
 LaidIn.of_run [5] 8 (by kernel_rfl) (by kernel_rfl) (by kernel_rfl) (by kernel_rfl)
theorem Zc2 {P : Program} {ρ : Ren} (L : Lays.n274 P ρ) (t206 : P.underlying (ρ.t 206) = some (.array 3 (ρ.t 21))) (X : CaseExtra P ρ) {w : World} (R : Nat) (t : TypeId) (hgR : ρ.g 13 ≠ R)
    (hvar : w.heap[ρ.g 13]? = some (.cells #[.slice (some ⟨R, 0, none⟩) Lib.caseA.size Lib.caseA.size] (ρ.t 162) (0, 0)))
    (hblk : w.heap[R]? = some (.cells Lib.caseCells5 t (0, 0))) : LaidIn P w [("unicode.CaseRanges", Lib.caseData)] [ρ.g 13, R] := by
  have hT := caseTab_of_block hblk
  have hread := case_slice_reads L t206 X hT caseA_wf (by rw [Lib.caseA_size]; unfold maxLen; omega) 0
  rw [case_rows_data] at hread
  have hv : w.var? P "unicode.CaseRanges" = some #[.slice (some ⟨R, 0, none⟩) Lib.caseA.size Lib.caseA.size] := by simp [World.var?, X.n13, hvar]
  refine LaidIn.one (cs := #[.slice (some ⟨R, 0, none⟩) Lib.caseA.size Lib.caseA.size]) [ρ.g 13, R] X.n13 X.y13 hv hread ?_ ?_ ?_
  · refine List.nodup_append.2 ⟨row_nodup _ _, row_nodup _ _, ?_⟩
    intro a ha b hb e
    obtain ⟨i, _, rfl⟩ := MemPlace.mem_row.1 ha
    obtain ⟨j, _, rfl⟩ := MemPlace.mem_row.1 hb
    simp at e
    exact hgR e.1
  · intro b off hp
    rcases List.mem_append.1 hp with hp | hp
    · obtain ⟨i, hi, e⟩ := MemPlace.mem_row.1 hp
      cases e
      refine ⟨⟨_, _, hvar⟩, fun u v hc => ?_⟩
      obtain rfl : i = 0 := by simp at hi; omega
      rw [Lib.cell_of_heap hvar] at hc
      simp at hc
    · obtain ⟨i, hi, e⟩ := MemPlace.mem_row.1 hp
      cases e
      refine ⟨⟨_, _, hblk⟩, fun u v hc => ?_⟩
      obtain ⟨c0, c1, c2, c3, c4⟩ := hT (i / 5) (by omega)
      have hi5 : 0 + i = 0 + i / 5 * 5 + i % 5 := by omega
      simp only at hc
      rw [hi5] at hc
      have hm : i % 5 < 5 := Nat.mod_lt _ (by omega)
      match hk : i % 5, hm with
      | 0, _ => rw [hk, Nat.add_zero, c0] at hc; cases hc
      | 1, _ => rw [hk, c1] at hc; cases hc
      | 2, _ => rw [hk, c2] at hc; cases hc
      | 3, _ => rw [hk, c3] at hc; cases hc
      | 4, _ => rw [hk, c4] at hc; cases hc
  · intro x hx
    rcases List.mem_append.1 hx with hx | hx
    · obtain ⟨i, _, rfl⟩ := MemPlace.mem_row.1 hx
      exact List.mem_cons_self
    · obtain ⟨i, _, rfl⟩ := MemPlace.mem_row.1 hx
      exact List.mem_cons_of_mem _ List.mem_cons_self
theorem caseX : CaseExtra Tryz.prog Z3G := ⟨by kernel_rfl, by kernel_rfl, by kernel_rfl, by kernel_rfl, by kernel_rfl, by kernel_rfl⟩
theorem Zdf (os : Os) (args : Array Value) : LaidIn Tryz.prog (LW os args) [("unicode.CaseRanges", Rows.laid_unicode_CaseRanges)] [3, N0] := by
 show LaidIn Tryz.prog (LW os args) [("unicode.CaseRanges", Go.Pinned.caseRanges)] [3, N0]
 rw [Pinned.caseRanges_eq]
 exact Zc2 { lays158 with } lays158.t206 caseX N0 (Z3G.t 208) (of_decide_eq_true (by kernel_rfl)) (by kernel_rfl) (by kernel_rfl)
theorem ZeQ (os : Os) (args : Array Value) : LaidIn Tryz.prog (LW os args) [("unicode.White_Space", Rows.laid_unicode_White_Space)] [4, N0 + 1, N0 + 2] :=
 LaidIn.of_run [4, N0 + 1, N0 + 2] 8 (by kernel_rfl) (by kernel_rfl) (by kernel_rfl) (by kernel_rfl)
theorem ZdB (os : Os) (args : Array Value) : LaidIn Tryz.prog (LW os args) [("strings.asciiSpace", Rows.laid_strings_asciiSpace)] [0] :=
 LaidIn.of_run [0] 8 (by kernel_rfl) (by kernel_rfl) (by kernel_rfl) (by kernel_rfl)
theorem Zex (os : Os) (args : Array Value) : laidMet Tryz.prog Rows.parseOnceRow.laid (LW os args) :=
 (((((Ze0 os args).append (ZeQ os args) (by kernel_rfl)).append (ZdB os args) (by kernel_rfl)).append (Zdf os args) (by kernel_rfl)).append (ZbT os args) (by kernel_rfl)).met
end Go.Proofs.YtbedigkncjbggaaGreatDoor
set_option maxRecDepth 100000
namespace Go.Proofs.YtbedigkncjbggaaGreatDoor
open Go Go.Vc Go.ChangeShapes Go.WideShapes Go.ChangeAt Go.RowKit
theorem ZdK {W : World} (h : W.ShapedOpen Tryz.prog) : GF W :=
 cell_of_shapedOpen_int (zero := #[.int .i64 0]) (t := 3) h (of_decide_eq_true (by kernel_rfl)) (by kernel_rfl) rfl (by kernel_rfl) (by kernel_rfl) Tryz.underlying3
theorem Zdr {W : World} {a : Addr} {v : Value} (h : W.cell? a = some v) : ∀ w', Keeps noX W w' → w'.cell? a = some v := fun w' hk => by
  unfold World.cell? at h ⊢
  cases hb : W.heap[a.block]? with
  | none => rw [hb] at h; simp at h
  | some o =>
    rw [hk.get hb (fun h => h)]
    rw [hb] at h
    exact h
theorem ZfS {W : World} (h : GF W) : Pers noX W GF := fun w' hk => by
 obtain ⟨m, hm⟩ := h
 exact ⟨m, Zdr hm w' hk⟩
theorem Zet : Tryz.prog.readableRec ZG = true ∧ ZG < Tryz.prog.types.size := ⟨by kernel_rfl, of_decide_eq_true (by kernel_rfl)⟩
theorem size1 {H : Type} {l : List UInt8} (h : (DataW.weightsEach (H := H) Tryz.prog [ZG] [.lit (.string l)]).all (· ≤ reachBytes) = true) : l.length ≤ 140737488351232 := by
 simp only [DataW.weightsEach, DataW.weights, List.append_nil, List.all_cons, List.all_nil, Bool.and_true, decide_eq_true_eq] at h
 exact h
theorem ZfJ {W : World} (h : laidMetH Tryz.prog Rows.parseOnceRow.laid W) : AF W := by
 have h1 : laidMet Tryz.prog Rows.parseOnceRow.laid W := h
 exact Lib.tabIs_of_head (t := 187) (e := 5) (n := 256) (by kernel_rfl : Tryz.prog.globalNamed "strings.asciiSpace" = some 0) (by kernel_rfl) (by kernel_rfl) (by kernel_rfl) (by kernel_rfl) (by kernel_rfl) (laidMet.tail (laidMet.tail h1))
theorem Zgb {W : World} (h : AF W) : Pers noX W AF := fun w' hk =>
 Joins.tab_stays (by kernel_rfl : Tryz.prog.globalNamed "strings.asciiSpace" = some 0) h hk.below (Nat.le_refl _)
end Go.Proofs.YtbedigkncjbggaaGreatDoor
set_option maxRecDepth 100000
namespace Go.Proofs.YtbedigkncjbggaaGreatDoor
open Go Go.Vc Go.ChangeShapes Go.WideShapes Go.ChangeAt Go.RowKit
open Go.ChangeMaps (open_string)
theorem Z97 (os : Os) (args : Array Value) : laidMet Tryz.prog Rows.parseKeepsRow.laid (LW os args) := Zex os args
theorem Z7N (os : Os) {H : Type} (enc : TypeId × Value → H) :
  (OpenSpec.ofChange Rows.parseKeepsSpec).preRow enc Tryz.prog Tryz.f7 Rows.parseKeepsRow.domain false Rows.parseKeepsRow.laid (LW os #[.string ⟨#[]⟩]) #[.string ⟨#[]⟩] := by
 have hw : (DataW.whole enc Tryz.prog (LW os #[.string ⟨#[]⟩]) Tryz.f7.params.toList Rows.parseKeepsSpec.vars false (#[.string ⟨#[]⟩] : Array Value).toList 8).map (fun x => (x.1, x.2.1)) = some ([.lit (.string [])], []) := by kernel_rfl
 obtain ⟨⟨x1, x2, x3⟩, hx, hx1⟩ := Option.map_eq_some_iff.1 hw
 simp only [Prod.mk.injEq] at hx1
 obtain ⟨rfl, rfl⟩ := hx1
 exact OpenSpec.preRow_of_cond 8 hx (by kernel_rfl) (fun k hk => by cases hk) (by kernel_rfl) (Z97 os _)
set_option maxHeartbeats 2000000 in
theorem Z8g (os : Os) (started : os.Started) (H : Type) (enc : TypeId × Value → H) (F : Stop.Interp) :
    ReturnsInHanded {} Tryz.checked os 7 .any ((OpenSpec.ofChange Rows.parseKeepsSpec).preRow enc Tryz.prog Tryz.f7 Rows.parseKeepsRow.domain false Rows.parseKeepsRow.laid) (((OpenSpec.ofChange Rows.parseKeepsSpec).at F).post enc Tryz.prog Tryz.f7 false true false false) := by
  refine returnsInHanded_of_row (C := Tryz.checked) (s := OpenSpec.ofChange Rows.parseKeepsSpec) own started (by kernel_rfl) Tryz.func7
    (witness_row_atRef (enc := enc) (C := Tryz.checked) false (laidWorld os) #[.string ⟨#[]⟩] rfl (by kernel_rfl) (by kernel_rfl) (by kernel_rfl) (Z7N os enc)) ?_
  intro W base args ds gs before hval0 hW _ _ hsz0 hL hsh _
  have hW' := hW
  obtain ⟨p, q, hA0, hV, rfl, hfz, hnd⟩ := hW
  have hA : DataW.TrodAll enc Tryz.prog W 0 (fun _ => true) true [ZG] args.toList ds p := hA0
  have hgf := ZfS (ZdK hsh)
  have haf := Zgb (ZfJ hL)
  obtain ⟨v0, d0, rfl, rfl, h0⟩ := trodAll_one hA
  obtain ⟨rfl, rfl⟩ := trodVars_none hV
  obtain ⟨s, rfl, rfl, rfl, _⟩ := open_string Zr (hval0 0 ZG v0 rfl rfl) h0
  have hsz : (DataW.weightsEach (H := H) Tryz.prog [ZG] [.lit (.string s.data.toList)]).all (· ≤ reachBytes) = true := hsz0
  refine ((Z7W s (by exact size1 hsz)).calls noX W [.string s] (fun _ h => h.elim) (fun F hF => by rcases Mc.1 hF with rfl | hF; exact fun w' _ => Nat.zero_le _; rcases Mc.1 hF with rfl | hF; exact hgf; rcases Mc.1 hF with rfl | hF; exact haf; cases hF) ⟨rfl, trivial⟩).mono fun e W' ⟨v, he, hk, hR⟩ => ?_
  subst he
  have hR' : v = .bool true := hR
  subst hR'
  exact ⟨_, rfl, Zen (f := Tryz.f7) (s := Rows.parseKeepsSpec) (tB := Zcp) laidOut (mem1 Zet) (by kernel_rfl) (by kernel_rfl) rfl rfl rfl rfl hW' hk⟩
theorem Z8Y : Rows.ParseKeepsSaid :=
 OpenClaim.holds_of_cond 7 Tryz.f7 rfl rfl rfl rfl rfl rfl rfl ⟨rfl, rfl, rfl, rfl, rfl⟩ rfl rfl rfl rfl rfl (by kernel_rfl) Tryz.func7 (by kernel_rfl)
  (of_decide_eq_true (by kernel_rfl)) (by unfold Func.isWrapper; first | (rw [if_pos (by decide +kernel)]; kernel_rfl) | (rw [if_neg (by decide +kernel)]; exact ⟨rfl, rfl⟩))
  (fun os started H enc _ F => by rw [OpenClaim.pre_eq_preRow]; exact Z8g os started H enc F)
theorem Z8w (f : FuncId) (fn : Func) (hf : Tryz.pinned.checked.prog.funcNamed "cadastre/cadastrelaw10.ParseKeeps" = some f) (hfn : Tryz.pinned.checked.prog.funcs[f]? = some fn) :
  true = Tryz.pinned.checked.prog.looks [] ∧ ∀ (j : Nat) t, fn.params[j]? = some t → Tryz.pinned.checked.prog.wantsStandIn t = false := by
 obtain rfl : f = 7 := Option.some.inj ((show Tryz.prog.funcNamed "cadastre/cadastrelaw10.ParseKeeps" = some 7 by kernel_rfl).symm.trans hf) |>.symm
 obtain rfl : fn = Tryz.f7 := (Option.some.inj (Tryz.func7.symm.trans hfn)).symm
 refine ⟨by kernel_rfl, fun j t ht => ?_⟩
 have hp : Tryz.f7.params = #[ZG] := by kernel_rfl
 rw [hp] at ht
 obtain rfl : t = ZG := by simpa using Array.mem_of_getElem? ht
 exact (show Tryz.prog.wantsStandIn ZG = false by kernel_rfl)
theorem parseKeeps_card : Rows.ParseKeepsCardSaid :=
 Claim7.holds_tied_plain_at .later [] _ _ _ _ Z8Y (fun _ h => by cases h) (by kernel_rfl) (fun _ h => by cases h) parseKeeps_row_tie rfl ⟨rfl, rfl⟩ (by kernel_rfl) rfl Z8w (by kernel_rfl)
#print axioms parseKeeps_card
end Go.Proofs.YtbedigkncjbggaaGreatDoor
