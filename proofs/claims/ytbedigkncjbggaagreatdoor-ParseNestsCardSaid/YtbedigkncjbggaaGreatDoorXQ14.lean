/- awake; an expression wherever it stands. No condition. -/
import Derived.Test.YtbedigkncjbggaaGreatDoorXQ12
import Derived.Test.YtbedigkncjbggaaGreatDoorXQ13
import Derived.Test.YtbedigkncjbggaaGreatDoorXG8
import Derived.Test.YtbedigkncjbggaaGreatDoorXQ2
import Derived.Test.YtbedigkncjbggaaGreatDoorRows
import Derived.Deep.DeepHandedRow
import Derived.Deep.DeepWitnessRowRef
import Derived.Lib.LaidCaseMet
import Derived.Lib.LaidIn
import Derived.PinnedBridge
import Derived.ProofKit
import Derived.Test.YtbedigkncjbggaaGreatDoorXG1
import Derived.Stop.LaidErr
import Derived.Lib.LaidTab
import Derived.Lib.SmallJoins
import Derived.Shelf.Vars
import Derived.JoinedCond
import Derived.ChangeMaps5
import Derived.Test.YtbedigkncjbggaaGreatDoorCards
import Derived.Test.YtbedigkncjbggaaGreatDoorTie
set_option maxRecDepth 20000
namespace Go.Proofs.YtbedigkncjbggaaGreatDoor
open Go Go.Vc
open Go.Pz
theorem c_PF (N : Nat) (s : ByteArray) : CallF Tryz.prog Z3d [NH N, GF, AF] [.is (.string s)] (.tup2 (.rep (StR N (prS s.data.toList).1)) (.is (.int .i64 (prS s.data.toList).2))) := CallL.toF (Zac N s) rfl
abbrev aw1 : ByteArray := ⟨#[115, 101, 108, 101, 99, 116, 32, 42, 32, 102, 114, 111, 109, 32, 116, 32, 119, 104, 101, 114, 101, 32, 97, 32, 61, 32, 49, 32, 97, 110, 100, 32, 110, 111, 116, 32, 98]⟩
abbrev aw2 : ByteArray := ⟨#[97, 32, 60, 32, 98, 32, 60, 32, 99]⟩
theorem ZhK : ∃ S0 : Pz.St, S0.kind = 4 ∧ (∃ y, S0.items = [y] ∧ y.all = true) ∧ (∃ x, S0.where_ = [x] ∧ x.K = 16) ∧ S0.limit = -1 ∧ CallF Tryz.prog Z3d [NH 0, GF, AF] [.is (.string aw1)] (.tup2 (.rep (StR 0 S0)) (.is (.int .i64 0))) := by
  have h0 : (prS aw1.data.toList).2 = 0 := by decide +kernel
  have h1 : (prS aw1.data.toList).1.kind = 4 := by decide +kernel
  have h2 : (match (prS aw1.data.toList).1.items with | [y] => y.all | _ => false) = true := by decide +kernel
  have h3 : (match (prS aw1.data.toList).1.where_ with | [x] => x.K == 16 | _ => false) = true := by decide +kernel
  have h4 : (prS aw1.data.toList).1.limit = -1 := by decide +kernel
  have hc := c_PF 0 aw1
  generalize prS aw1.data.toList = p at h0 h1 h2 h3 h4 hc
  obtain ⟨S0, e⟩ := p
  dsimp only at h0 h1 h2 h3 h4 hc
  subst h0
  refine ⟨S0, h1, ?_, ?_, h4, hc⟩
  · split at h2
    · rename_i y hy; exact ⟨y, hy, h2⟩
    · cases h2
  · split at h3
    · rename_i x hx; exact ⟨x, hx, by simpa using h3⟩
    · cases h3
theorem ZhT : ∃ S0 : Pz.St, CallF Tryz.prog Z3d [NH 0, GF, AF] [.is (.string aw2)] (.tup2 (.rep (StR 0 S0)) (.is (.int .i64 30))) := by
 have h0 : (prS aw2.data.toList).2 = 30 := by decide +kernel
 have hc := c_PF 0 aw2
 generalize prS aw2.data.toList = p at h0 hc
 obtain ⟨S0, e⟩ := p
 dsimp only at h0 hc
 subst h0
 exact ⟨S0, hc⟩
theorem Zgy {ps : List (Cel exE)} {l : List Ex} (h : ∃ w, CelF exE ps w) (hm : ps.map Cel.x = l) {i : Nat} (hi : i < ps.length) (hi' : i < l.length) : (ps[i].cs)[0]? = some (.int .i64 (l[i]).K) := by
 obtain ⟨w, hw⟩ := h
 subst hm
 have h1 : ExR ps[i].x (.agg (ps[i].cs).toArray) w := hw _ (List.getElem_mem hi)
 generalize ps[i].cs = cs at h1
 rw [List.getElem_map]
 generalize ps[i].x = x at h1
 cases x
 unfold ExR at h1
 obtain ⟨a, len, cap, e, _⟩ := h1
 rw [Z2D e]; rfl
theorem Zal  : CallF Tryz.prog Za8 [NH 0, GF, AF] [] (.is (.bool true)) :=
CallF.of (fn := Tryz.f12) Tryz.func12 (n := 56) rfl rfl rfl (fun _ _ => by kernel_rfl) fun E W => by
 obtain ⟨S1, hk1, ⟨y1, hy1, hy2⟩, ⟨x1, hx1, hx2⟩, hlim, hP1⟩ := ZhK
 obtain ⟨S2, hP2⟩ := ZhT
 repeat apply Sq
 apply Pn
 refine Jt (Z2 rfl) rfl ?_
 apply Ni
 repeat first | apply Nx | apply Nb
 refine Sl [] .nil ?_
 repeat apply Sq
 apply Pn
 refine Jt (Z2t rfl hP1 (fun F hF => by repeat (first | (rcases Mc.1 hF with rfl | hF; · (repeat first | exact Mh | apply Mt)) | (cases hF; done))) (.one rfl .nil)) rfl ?_
 refine Jt (Z0 rfl) rfl ?_
 refine Jt (Z1Q rfl) rfl ?_
 refine Jt (Z1R rfl) rfl ?_
 refine JO.alloc Z10 rfl fun b1 => ?_
 refine JO.m (Z4 rfl rfl (by repeat first | exact .here | apply Ut) (by exact Z15 rfl rfl) (by exact Z2j) Zl) (by rfl) ?_
 refine Jt (Z2 rfl) rfl ?_
 apply Ni
 repeat first | apply Nx | apply Nb
 refine Sl [1, 2] (.cons rfl (.cons rfl .nil)) ?_
 repeat apply Sq
 apply Pn
 refine Jt (Z2t rfl hP2 (fun F hF => by repeat (first | (rcases Mc.1 hF with rfl | hF; · (repeat first | exact Mh | apply Mt)) | (cases hF; done))) (.one rfl .nil)) rfl ?_
 refine Jt (Z0 rfl) rfl ?_
 refine Jt (Z1Q rfl) rfl ?_
 refine Jt (Z1R rfl) rfl ?_
 refine JO.alloc Z10 rfl fun b3 => ?_
 refine JO.m (Z4 rfl rfl (by repeat first | exact .here | apply Ut) (by exact Z15 rfl rfl) (by exact Z2j) Zl) (by rfl) ?_
 refine Jt (Z2 rfl) rfl ?_
 apply Ni
 repeat first | apply Nx | apply Nb
 refine Sl [1, 2, 4] (.cons rfl (.cons rfl (.cons rfl .nil))) ?_
 refine J.front b1 (by repeat (first | exact .here | apply Front.there)) ?_
 refine J.openOwnSt fun vc vn vr vi vf vw vg vo vs h1c => ?_
 refine J.shapeE (xs := S1.items) (v := vi) (by repeat first | exact Mh | apply Mt) (fun pi ai li ci bi oi_ hpi hvi hli hai => ?_)
 refine J.shapeE (xs := S1.where_) (v := vw) (by repeat first | exact Mh | apply Mt) (fun pw aw lw cw bw ow_ hpw hvw hlw haw => ?_)
 refine J.pureF (F := CelF itE pi) (by repeat first | exact Mh | apply Mt) (fun pui => ?_)
 refine J.pureF (F := CelF exE pw) (by repeat first | exact Mh | apply Mt) (fun puw => ?_)
 subst hvi hvw
 rw [hy1] at hpi
 rw [hx1] at hpw
 have li1 : li = 1 := by rw [← hli, ← List.length_map (f := Cel.x), hpi]; rfl
 have lw1 : lw = 1 := by rw [← hlw, ← List.length_map (f := Cel.x), hpw]; rfl
 repeat apply Sq
 refine J.reg0 hmx (by kernel_rfl) (by kernel_rfl) ?_
 refine Rq (Z0 rfl) ?_
 refine Rq (Z1e rfl rfl) ?_
 refine Rq (Z0 rfl) ?_
 refine Rg rfl rfl rfl (fun hg => Z1 Z3W (.inl rfl)) ?_
 refine Rg rfl rfl rfl (fun hg => Z3 Zy (.inr ⟨_, rfl, id⟩) rfl) ?_
 refine Rg rfl rfl rfl (fun hg => Z1e (.inr ⟨_, rfl, id⟩) (.inl rfl)) ?_
 refine Rq (ZD rfl rfl rfl id) ?_
 refine Rq (Z0 rfl) ?_
 refine Rg rfl rfl rfl (fun hg => Z1 Z1q (.inl rfl)) ?_
 refine Rg rfl rfl rfl (fun hg => Z3 Z1w (.inr ⟨_, rfl, id⟩) rfl) ?_
 refine Rg rfl rfl rfl (fun hg => Zq Z1O (.inr ⟨_, rfl, id⟩)) ?_
 refine Rg rfl rfl rfl (fun hg => Z1e (.inr ⟨_, rfl, id⟩) (.inl rfl)) ?_
 refine Rq (ZD rfl rfl rfl id) ?_
 refine Rq (Z0 rfl) ?_
 refine Rg rfl rfl rfl (fun hg => Z1 Z1q (.inl rfl)) ?_
 refine Rg rfl rfl rfl (fun hg => Z3 Z1w (.inr ⟨_, rfl, id⟩) rfl) ?_
 refine Rg rfl rfl rfl (fun hg => Z7 Z2W (.inr ⟨_, rfl, id⟩) (hai (by omega)) (.inl rfl) (by omega) (by omega)) ?_
 refine Rg rfl rfl rfl (fun hg => Z1 Z5c (.inr ⟨_, rfl, id⟩)) ?_
 refine Rg rfl rfl rfl (fun hg => ZA (sz := 9) (i := 0) (j := 0) (enc := @Cel.cs _ itE) (y := pi[0]) (u := .bool y1.all) Z4G (.inr ⟨_, rfl, id⟩) (by repeat first | exact Mh | apply Mt) (hai (by omega)) (List.getElem?_eq_getElem (by omega : 0 < pi.length)) rfl (Z9B (l := [y1]) pui hpi (by omega) Nat.zero_lt_one)) ?_
 refine Rq (ZD rfl rfl rfl id) ?_
 refine Rq (Z0 rfl) ?_
 refine Rg rfl rfl rfl (fun hg => Z1 Z1r (.inl rfl)) ?_
 refine Rg rfl rfl rfl (fun hg => Z3 Zf (.inr ⟨_, rfl, id⟩) rfl) ?_
 refine Rg rfl rfl rfl (fun hg => Zq Zk (.inr ⟨_, rfl, id⟩)) ?_
 refine Rg rfl rfl rfl (fun hg => Z1e (.inr ⟨_, rfl, id⟩) (.inl rfl)) ?_
 refine Rq (ZD rfl rfl rfl id) ?_
 refine Rq (Z0 rfl) ?_
 refine Rg rfl rfl rfl (fun hg => Z1 Z1r (.inl rfl)) ?_
 refine Rg rfl rfl rfl (fun hg => Z3 Zf (.inr ⟨_, rfl, id⟩) rfl) ?_
 refine Rg rfl rfl rfl (fun hg => Z7 Z1c (.inr ⟨_, rfl, id⟩) (haw (by omega)) (.inl rfl) (by omega) (by omega)) ?_
 refine Rg rfl rfl rfl (fun hg => Z1 Z38 (.inr ⟨_, rfl, id⟩)) ?_
 refine Rg rfl rfl rfl (fun hg => ZA (sz := 8) (i := 0) (j := 0) (enc := @Cel.cs _ exE) (y := pw[0]) (u := .int .i64 x1.K) Zy (.inr ⟨_, rfl, id⟩) (by repeat first | exact Mh | apply Mt) (haw (by omega)) (List.getElem?_eq_getElem (by omega : 0 < pw.length)) rfl (Zgy (l := [x1]) puw hpw (by omega) Nat.zero_lt_one)) ?_
 refine Rg rfl rfl rfl (fun hg => Z1e (.inr ⟨_, rfl, id⟩) (.inl rfl)) ?_
 refine Rq (ZD rfl rfl rfl id) ?_
 refine Rq (Z0 rfl) ?_
 refine Rg rfl rfl rfl (fun hg => Z1 Z25 (.inl rfl)) ?_
 refine Rg rfl rfl rfl (fun hg => Z3 Zy (.inr ⟨_, rfl, id⟩) rfl) ?_
 refine Rg rfl rfl rfl (fun hg => Z1e (.inr ⟨_, rfl, id⟩) (.inl rfl)) ?_
 refine Rq (ZD rfl rfl rfl id) ?_
 refine Rq (Z0 rfl) ?_
 refine Rg rfl rfl rfl (fun hg => Z0 (.inl rfl)) ?_
 refine Rg rfl rfl rfl (fun hg => Z1e (.inr ⟨_, rfl, id⟩) (.inl rfl)) ?_
 refine Rq (ZD rfl rfl rfl id) ?_
 refine Rq (Z2 rfl) ?_
 apply Rn
 refine FinS.nil0 ?_
 repeat first | apply Nx | apply Nb
 refine Sl [0] (.cons rfl .nil) ?_
 repeat apply Sq
 apply Rt
 repeat first | apply Rp | apply Rb
 exact JX.ret1is rfl rfl (by simp [hk1, li1, hy2, lw1, hx2, hlim])
end Go.Proofs.YtbedigkncjbggaaGreatDoor
set_option maxRecDepth 20000
namespace Go.Proofs.YtbedigkncjbggaaGreatDoor
open Go Go.Vc Go.Pz
abbrev tDel : List UInt8 := [100, 101, 108, 101, 116, 101, 32, 102, 114, 111, 109, 32, 116, 32, 119, 104, 101, 114, 101]
abbrev tSel : List UInt8 := [115, 101, 108, 101, 99, 116]
abbrev tIns : List UInt8 := [105, 110, 115, 101, 114, 116, 32, 105, 110, 116, 111, 32, 116, 32, 118, 97, 108, 117, 101, 115]
abbrev tUpd : List UInt8 := [117, 112, 100, 97, 116, 101, 32, 116, 32, 115, 101, 116, 32, 120, 32, 61]
abbrev tFrm : List UInt8 := [32, 102, 114, 111, 109, 32, 116]
end Go.Proofs.YtbedigkncjbggaaGreatDoor
set_option maxRecDepth 20000
namespace Go.Proofs.YtbedigkncjbggaaGreatDoor
open Go Go.Vc
open Go.Pz
theorem Zex {ts : List T3} (h : (readT ts).2 ≠ 0) : (readT ts).1 = st0 := by
  unfold readT at h ⊢
  split
  · rfl
  · rename_i s hs
    rw [hs] at h
    dsimp only at h ⊢
    split
    · rfl
    · rename_i hd; rw [if_neg hd] at h; exact absurd rfl h
theorem Zgm {l : List UInt8} (h : (prS l).2 ≠ 0) : (prS l).1 = st0 := by
 by_cases he : (lexL l).2 = 0
 · rw [Zeb he] at h ⊢; exact Zex h
 · rw [ZcL he]
theorem Z96 (l : List UInt8) : SmS (prS l).1 ∧ ∀ x ∈ exsOf (prS l).1, ect x ≤ 4096 := by
  by_cases h : (prS l).2 = 0
  · have he := Zh0 h
    rw [Zeb he] at h ⊢
    obtain ⟨s, r, h1, _, _, h4⟩ := Zfw h
    rw [h4]
    refine ⟨ZaS h1, fun x hx => ?_⟩
    have := ZcK (Z37 _) (Z9q _) (Nat.le_refl _) h1 x hx
    have := Zb5 l
    omega
  · rw [Zgm h]
    refine ⟨⟨Nat.zero_le _, (fun x hx => by cases hx), Nat.zero_le _, Nat.zero_le _, (fun x hx => by cases hx), Nat.zero_le _, Nat.zero_le _, Nat.zero_le _, Nat.zero_le _, Nat.zero_le _, Nat.zero_le _⟩, fun x hx => by simp [exsOf, st0] at hx⟩
theorem Z1S (a b : ByteArray) : a ++ b = bl (a.data.toList ++ b.data.toList) := by
 apply ByteArray.ext
 apply Array.ext'
 simp
theorem c_PL (N : Nat) (l : List UInt8) : CallF Tryz.prog Z3d [NH N, GF, AF] [.is (.string (bl l))] (.tup2 (.rep (StR N (prS l).1)) (.is (.int .i64 (prS l).2))) := c_PF N (bl l)
end Go.Proofs.YtbedigkncjbggaaGreatDoor
set_option maxRecDepth 20000
namespace Go.Proofs.YtbedigkncjbggaaGreatDoor
open Go Go.Vc
open Go.Pz
end Go.Proofs.YtbedigkncjbggaaGreatDoor
set_option maxRecDepth 20000
namespace Go.Proofs.YtbedigkncjbggaaGreatDoor
open Go Go.Vc Go.Pz
abbrev dW : List UInt8 := tDel ++ [32]
abbrev mnL (k : Nat) : List UInt8 := List.replicate k 45
abbrev opL (k : Nat) : List UInt8 := List.replicate k 40
abbrev clL (k : Nat) : List UInt8 := List.replicate k 41
abbrev nsA (k : Nat) : List UInt8 := dW ++ mnL k ++ [49, 32, 61, 32, 50]
abbrev nsB (k : Nat) : List UInt8 := dW ++ opL k ++ [120] ++ clL k
abbrev nsC : List UInt8 := dW ++ [120]
def xLeaf : Ex := .mk 2 0 0 em em n_x 0 []
def delX : St := { stK 6 with tb := n_t, where_ := [xLeaf] }
def isDel (s : St) : Bool := s.kind == 6 && sq s.tb n_t && sq s.nm em && s.cols.isEmpty && s.names.isEmpty && s.rows.isEmpty && s.items.isEmpty && s.from_.isEmpty && s.group.isEmpty && s.order.isEmpty && s.limit == -1 && s.sets.isEmpty && !s.hash
  && (match s.where_ with | [.mk k vk vn vs tb nm sl []] => k == 2 && vk == 0 && vn == 0 && sq vs em && sq tb em && sq nm n_x && sl == 0 | _ => false)
theorem Z88 {a b : ByteArray} (h : sq a b = true) : a = b := by
 cases a; cases b
 simpa [sq] using h
theorem ZaB {s : St} (h : isDel s = true) : s = delX := by
  unfold isDel at h
  simp only [Bool.and_eq_true, beq_iff_eq, List.isEmpty_iff, Bool.not_eq_true'] at h
  obtain ⟨⟨⟨⟨⟨⟨⟨⟨⟨⟨⟨⟨⟨h1, h2⟩, h3⟩, h4⟩, h5⟩, h6⟩, h7⟩, h8⟩, h9⟩, h10⟩, h11⟩, h12⟩, h13⟩, h14⟩ := h
  split at h14
  · rename_i k vk vn vs tb nm sl hw
    simp only [Bool.and_eq_true, beq_iff_eq] at h14
    obtain ⟨⟨⟨⟨⟨⟨g1, g2⟩, g3⟩, g4⟩, g5⟩, g6⟩, g7⟩ := h14
    cases s
    dsimp only at *
    subst h1 h4 h5 h6 h7 h8 h9 h10 h11 h12 h13 g1 g2 g3 g7
    rw [hw, Z88 h2, Z88 h3, Z88 g4, Z88 g5, Z88 g6]
    rfl
  · cases h14
def okA (k : Nat) (r : St × Int) : Bool := ((r.2 == 0) == decide (k ≤ 30)) && ((r.2 == 0) || (r.2 == 31)) && (!(r.2 == 0) || (match r.1.where_ with | [x] => hgt x == k + 2 | _ => false))
def okB (r : St × Int) : Bool := (r.2 == 0) && isDel r.1
theorem Zee : (List.range 40).all (fun k => okA k (prS (nsA k)) && okB (prS (nsB k))) = true := by decide +kernel
theorem Zgg : okB (prS nsC) = true := by decide +kernel
abbrev sgs : List (List UInt8) := [[79, 82], [65, 78, 68], [43], [45], [42], [47], [37], [45, 32, 45], [43, 32, 45]]
abbrev nsD (g : List UInt8) : List UInt8 := dW ++ [97, 32] ++ g ++ [32, 98, 32] ++ g ++ [32, 99]
def okD (r : St × Int) : Bool := (r.2 == 0) && (match r.1.where_ with | [x] => (match x.KS with | [y, _] => (match y.KS with | [u, _] => (y.K == x.K) && sq u.NM ⟨#[97]⟩ | _ => false) | _ => false) | _ => false)
theorem ZgA : sgs.all (fun g => okD (prS (nsD g))) = true := by decide +kernel
theorem Zgs {k : Nat} (h : k < 40) : okA k (prS (nsA k)) = true ∧ okB (prS (nsB k)) = true := by
 have := List.all_eq_true.1 Zee k (List.mem_range.2 h)
 simpa using this
end Go.Proofs.YtbedigkncjbggaaGreatDoor
set_option maxRecDepth 20000
namespace Go.Proofs.YtbedigkncjbggaaGreatDoor
open Go Go.Vc
open Go.Pz
theorem tmn {n : Int} {m : Int} (h : 0 ≤ n ∧ n < 256) (hm : 0 < m) : 0 ≤ n.tmod m ∧ n.tmod m < m := by
 rw [Int.tmod_eq_emod_of_nonneg h.1]
 exact ⟨Int.emod_nonneg _ (by omega), Int.emod_lt_of_pos _ hm⟩
theorem Z8R (b : UInt8) (i : Nat) : List.replicate i b ++ [b] = List.replicate (i + 1) b := (List.replicate_succ' ..).symm
theorem Z9z (b : UInt8) (i : Nat) : (bl (List.replicate i b)).size = i := by rw [ZF, List.length_replicate]
theorem Z39 (l k : List UInt8) : bl l ++ bl k = bl (l ++ k) := by rw [Z1S]
theorem J.exFact {P : Program} {c : Ctx} {K : List (Nat × Ty)} {L : List Own} {Φ : List (World → Prop)} {Q : Exit → Act → World → Prop} {y : Code} {x : Ex} {cs : List Value} (h : ExR x (.agg cs.toArray) ∈ Φ) (hj : ∀ (a : Option Addr) (len cap b o : Nat), cs = exCells x.K x.VK x.VN x.VS x.TB x.NM x.SL a len cap → x.KS.length = len → (len ≠ 0 → a = some ⟨b, o, none⟩) → J P c K L (KidsR x.KS a len :: Φ) y Q) : J P c K L Φ y Q := by
  refine ⟨fun X a' w hs => ?_⟩
  have hp := hs.f _ h
  have hn := hp.now
  cases x with
  | mk k vk vn vs tb nm sl kids =>
    unfold ExR at hn
    obtain ⟨a, len, cap, e, h1, h2⟩ := hn
    have e2 := Z2D e
    have hk : Pers X w (KidsR kids a len) := fun w' hkp => by
      have h3 := hp w' hkp
      unfold ExR at h3
      obtain ⟨a3, len3, cap3, e3, h4, h5⟩ := h3
      have e4 := Z2D (e.symm.trans e3)
      simp only [exCells, List.cons.injEq, Value.slice.injEq, and_true, true_and] at e4
      obtain ⟨rfl, rfl, rfl⟩ := e4
      exact ⟨h4, h5⟩
    obtain ⟨b, o, hbo⟩ : ∃ b o, len ≠ 0 → a = some ⟨b, o, none⟩ := by
      by_cases hl : len = 0
      · exact ⟨0, 0, fun h => absurd hl h⟩
      · obtain ⟨b, o, e, _⟩ := h2 hl; exact ⟨b, o, fun _ => e⟩
    refine (hj a len cap b o e2 h1 hbo).out X a' w (SA.more hs [_] fun F hF => ?_)
    rw [List.mem_singleton.1 hF]
    exact hk
theorem ZfA {r : Pz.St × Int} (h : okD r = true) : r.2 = 0 ∧ ∃ x y z u v, r.1.where_ = [x] ∧ x.KS = [y, z] ∧ y.KS = [u, v] ∧ y.K = x.K ∧ u.NM = ⟨#[97]⟩ := by
  unfold okD at h
  simp only [Bool.and_eq_true, beq_iff_eq] at h
  obtain ⟨h1, h2⟩ := h
  refine ⟨h1, ?_⟩
  split at h2
  · rename_i x hx
    split at h2
    · rename_i y z hy
      split at h2
      · rename_i u v hu
        simp only [Bool.and_eq_true, beq_iff_eq] at h2
        exact ⟨x, y, z, u, v, hx, hy, hu, h2.1, Z88 h2.2⟩
      · cases h2
    · cases h2
  · cases h2
theorem ZfQ {k : Nat} {p : Pz.St × Int} (h : (!(p.2 == 0) || (match p.1.where_ with | [x] => hgt x == k + 2 | _ => false)) = true) (h0 : p.2 = 0) : p.1.where_.length = 1 := by
 rw [h0] at h
 cases hw : p.1.where_ with
 | nil => rw [hw] at h; simp at h
 | cons x l => cases l with
  | nil => rfl
  | cons y l => rw [hw] at h; simp at h
theorem Zgt {k : Nat} {p : Pz.St × Int} (h : (!(p.2 == 0) || (match p.1.where_ with | [x] => hgt x == k + 2 | _ => false)) = true) (h0 : p.2 = 0) : hgt (p.1.where_.headD ex0) = k + 2 := by
 rw [h0] at h
 cases hw : p.1.where_ with
 | nil => rw [hw] at h; simp at h
 | cons x l => cases l with
  | nil => rw [hw] at h; simpa using h
  | cons y l => rw [hw] at h; simp at h
theorem ZhD {c : Int} {j : Nat} {g : List UInt8} (hj : (j : Int) = c.tmod 9) (h9 : j < 9) (hg : g = sgs.getD j []) : (([.string ⟨#[79, 82]⟩, .string ⟨#[65, 78, 68]⟩, .string ⟨#[43]⟩, .string ⟨#[45]⟩, .string ⟨#[42]⟩, .string ⟨#[47]⟩, .string ⟨#[37]⟩, .string ⟨#[45, 32, 45]⟩, .string ⟨#[43, 32, 45]⟩] : List Value).toArray)[(c.tmod 9).toNat]? = some (.string (bl g)) := by
  rw [← hj]
  subst hg
  match j, h9 with
  | 0, _ => rfl
  | 1, _ => rfl
  | 2, _ => rfl
  | 3, _ => rfl
  | 4, _ => rfl
  | 5, _ => rfl
  | 6, _ => rfl
  | 7, _ => rfl
  | 8, _ => rfl
theorem ZfS {k : Nat} {a b c : Int} (h : (a == 0) = decide (k ≤ 30) ∧ (a == 0 || a == 31) = true) (hb : b = 0) (hc : c = 0) : (!(a == 0) == decide ((k : Int) ≤ 30) || a != 0 && a != 31 || b != 0 || c != 0 || !true) = false := by
 subst hb hc
 obtain ⟨h1, h2⟩ := h
 have e : decide ((k : Int) ≤ 30) = decide (k ≤ 30) := decide_eq_decide.2 (by omega)
 rw [e, ← h1]
 simp only [bne]
 revert h2
 cases a == 0 <;> cases a == 31 <;> simp
theorem ZfZ {k : Nat} {p : Pz.St × Int} (h : (!(p.2 == 0) || (match p.1.where_ with | [x] => hgt x == k + 2 | _ => false)) = true) : (p.2 == 0 && ((hgt (p.1.where_.headD ex0) : Nat) : Int) != ((k + 2 : Nat) : Int)) = false := by
 by_cases h0 : p.2 = 0
 · rw [Zgt h h0]; simp
 · simp [h0]
theorem Zfl {l : List Ex} (h : l.length = 1) : l[0]? = some (l.headD ex0) := by
 cases l with
 | nil => simp at h
 | cons x l => rfl
theorem Zg2 {s : Pz.St} (h : s.where_.length = 1) : s.where_.headD ex0 ∈ exsOf s := by
 cases hw : s.where_ with
 | nil => rw [hw] at h; simp at h
 | cons x l => unfold exsOf; rw [hw]; simp
set_option maxHeartbeats 4000000 in
theorem Z80 (n c : Int) (hn : 0 ≤ n ∧ n < 256) (hc : 0 ≤ c ∧ c < 256) : CallF Tryz.prog Z7T [NH 0, GF, AF] [.is (.int .u8 n), .is (.int .u8 c)] (.is (.bool true)) :=
CallF.of (fn := Tryz.f5) Tryz.func5 (n := 155) rfl rfl rfl (fun _ _ => by kernel_rfl) fun E W => by
  obtain ⟨k, hk⟩ : ∃ k : Nat, (k : Int) = n.tmod 40 := ⟨(n.tmod 40).toNat, by have := tmn hn (m := 40) (by decide); omega⟩
  obtain ⟨j, hj⟩ : ∃ j : Nat, (j : Int) = c.tmod 9 := ⟨(c.tmod 9).toNat, by have := tmn hc (m := 9) (by decide); omega⟩
  have hk40 : k < 40 := by have := tmn hn (m := 40) (by decide); omega
  have hj9 : j < 9 := by have := tmn hc (m := 9) (by decide); omega
  obtain ⟨hA, hB⟩ := Zgs hk40
  have hC := Zgg
  obtain ⟨g, hg0⟩ : ∃ g, g = sgs.getD j [] := ⟨_, rfl⟩
  have hgm : g ∈ sgs := by rw [hg0, List.getD_eq_getElem?_getD, List.getElem?_eq_getElem (by exact hj9)]; exact List.getElem_mem _
  have hgl : g.length ≤ 3 := (show ∀ g ∈ sgs, g.length ≤ 3 by decide) g hgm
  have hD := List.all_eq_true.1 ZgA g hgm
  have hP1 := c_PL 0 (nsA k)
  have hS1 := Z96 (nsA k)
  obtain ⟨p1, hp1⟩ : ∃ q, q = prS (nsA k) := ⟨_, rfl⟩
  rw [← hp1] at hP1 hS1
  have hP2 := c_PL 0 (nsB k)
  have hS2 := Z96 (nsB k)
  obtain ⟨p2, hp2⟩ : ∃ q, q = prS (nsB k) := ⟨_, rfl⟩
  rw [← hp2] at hP2 hS2
  have hP3 := c_PL 0 nsC
  have hS3 := Z96 nsC
  obtain ⟨p3, hp3⟩ : ∃ q, q = prS nsC := ⟨_, rfl⟩
  rw [← hp3] at hP3 hS3
  have hP4 := c_PL 0 (nsD g)
  have hS4 := Z96 (nsD g)
  obtain ⟨p4, hp4⟩ : ∃ q, q = prS (nsD g) := ⟨_, rfl⟩
  rw [← hp4] at hP4 hS4
  rw [← hp1] at hA
  rw [← hp2] at hB
  rw [← hp3] at hC
  rw [← hp4] at hD
  unfold okA at hA
  unfold okB at hB hC
  simp only [Bool.and_eq_true, beq_iff_eq] at hA hB hC
  obtain ⟨hA1, hA2⟩ := (show _ ∧ _ from hA)
  obtain ⟨e4, x, y, z, u, v, hw4, hxk, hyk, hyx, hun⟩ := ZfA hD
  have eB := ZaB hB.2
  have eC := ZaB hC.2
  repeat apply Sq
  apply Pn
  refine Jt (Z2 rfl) rfl ?_
  apply Ni
  repeat first | apply Nx | apply Nb
  refine Sl [0, 1] (.cons rfl (.cons rfl .nil)) ?_
  repeat apply Sq
  apply Pn
  refine Jt (Z2t rfl Zal (fun F hF => by repeat (first | (rcases Mc.1 hF with rfl | hF; · (repeat first | exact Mh | apply Mt)) | (cases hF; done))) .nil) rfl ?_
  refine Jt (Z51 rfl) rfl ?_
  apply Ni
  repeat first | apply Nx | apply Nb
  refine Sl [0, 1, 21] (.cons rfl (.cons rfl (.cons rfl .nil))) ?_
  repeat apply Sq
  refine Cd rfl (fun ht21 => ?_) (fun ht21 => ?_)
  ·
    try simp only [dT, dF] at ht21
    repeat apply Sq
    apply Pn
    refine Jt (Z2 rfl) rfl ?_
    apply Ni
    repeat first | apply Nx | apply Nb
    refine Sl [4] (.cons rfl .nil) ?_
    repeat apply Sq
    apply Rt
    repeat first | apply Rp | apply Rb
    exact JX.ret1is rfl rfl (by exact absurd ht21 (by decide))
  ·
    try simp only [dT, dF] at ht21
    apply Sk
    repeat first | apply Nx | apply Nb
    repeat apply Sq
    apply Pn
    refine Jt (Z0 rfl) rfl ?_
    refine Jt (Zdz rfl rfl (by first | decide | (simp at hg; omega) | simp_all)) rfl ?_
    refine Jt (Zd1 (cc := ((k : Nat) : Int)) ⟨_, Z4L⟩ Zhc rfl (by rw [← hk, Z7S (by omega) (by omega)])) rfl ?_
    refine Jt (Z2 rfl) rfl ?_
    apply Ni
    repeat first | apply Nx | apply Nb
    refine Sl [1, 5] (.cons rfl (.cons rfl .nil)) ?_
    repeat apply Sq
    apply Pn
    refine Jt (Z2 rfl) rfl ?_
    apply Ni
    repeat first | apply Nx | apply Nb
    refine Sl [1, 5, 6] (.cons rfl (.cons rfl (.cons rfl .nil))) ?_
    repeat apply Sq
    apply Pn
    refine Jt (Z2 rfl) rfl ?_
    apply Ni
    repeat first | apply Nx | apply Nb
    refine Sl [1, 5, 6, 7] (.cons rfl (.cons rfl (.cons rfl (.cons rfl .nil)))) ?_
    repeat apply Sq
    apply Pn
    refine Jt (Z2 rfl) rfl ?_
    apply Ni
    repeat first | apply Nx | apply Nb
    refine Sl [1, 5, 6, 7, 8] (.cons rfl (.cons rfl (.cons rfl (.cons rfl (.cons rfl .nil))))) ?_
    repeat apply Sq
    apply Pn
    refine Jt (Z2 rfl) rfl ?_
    apply Ni
    repeat first | apply Nx | apply Nb
    refine Sl [1, 5, 6, 7, 8, 9] (.cons rfl (.cons rfl (.cons rfl (.cons rfl (.cons rfl (.cons rfl .nil)))))) ?_
    repeat apply Sq
    apply Bk
    repeat apply Sq
    refine J.loopF (α := Nat) (fun i => [(1, .is (.int .u8 c)), (5, .is (.int .i64 (k : Nat))), (6, .is (.string (bl (List.replicate i 45)))), (7, .is (.string (bl (List.replicate i 40)))), (8, .is (.string (bl (List.replicate i 41)))), (9, .is (.int .i64 (i : Nat)))]) (fun i => i ≤ k) (fun i => k - i) 0 [1, 5, 6, 7, 8, 9] (.cons rfl (.cons rfl (.cons rfl (.cons rfl (.cons rfl (.cons rfl .nil)))))) (Nat.zero_le _) fun i hi => ?_
    repeat apply Sq
    apply Pn
    refine Jt (Z0 rfl) rfl ?_
    refine Jt (Z0 rfl) rfl ?_
    refine Jt (Z1f rfl rfl) rfl ?_
    apply Ni
    repeat first | apply Nx | apply Nb
    refine Sl [1, 5, 6, 7, 8, 9, 27] (.cons rfl (.cons rfl (.cons rfl (.cons rfl (.cons rfl (.cons rfl (.cons rfl .nil))))))) ?_
    repeat apply Sq
    refine Cd rfl (fun ht27 => ?_) (fun ht27 => ?_)
    ·
      try simp only [dT, dF] at ht27
      apply Sk
      repeat first | apply Nx | apply Nb
      repeat apply Sq
      apply Bk
      repeat apply Sq
      apply Pn
      refine Jt (Z0 rfl) rfl ?_
      refine Jt (Z2i (u := bl (List.replicate (i + 1) 45)) rfl rfl (by rw [Z9z]; show i + 1 ≤ _; omega) (by rw [← Z8R]; exact Z39 _ _)) rfl ?_
      refine Jt (Z2 rfl) rfl ?_
      apply Ni
      repeat first | apply Nx | apply Nb
      refine Sl [1, 5, 6, 7, 8, 9] (.cons rfl (.cons rfl (.cons rfl (.cons rfl (.cons rfl (.cons rfl .nil)))))) ?_
      repeat apply Sq
      apply Pn
      refine Jt (Z0 rfl) rfl ?_
      refine Jt (Z2i (u := bl (List.replicate (i + 1) 40)) rfl rfl (by rw [Z9z]; show i + 1 ≤ _; omega) (by rw [← Z8R]; exact Z39 _ _)) rfl ?_
      refine Jt (Z2 rfl) rfl ?_
      apply Ni
      repeat first | apply Nx | apply Nb
      refine Sl [1, 5, 6, 7, 8, 9] (.cons rfl (.cons rfl (.cons rfl (.cons rfl (.cons rfl (.cons rfl .nil)))))) ?_
      repeat apply Sq
      apply Pn
      refine Jt (Z0 rfl) rfl ?_
      refine Jt (Z2i (u := bl (List.replicate (i + 1) 41)) rfl rfl (by rw [Z9z]; show i + 1 ≤ _; omega) (by rw [← Z8R]; exact Z39 _ _)) rfl ?_
      refine Jt (Z2 rfl) rfl ?_
      apply Ni
      repeat first | apply Nx | apply Nb
      refine Sl [1, 5, 6, 7, 8, 9] (.cons rfl (.cons rfl (.cons rfl (.cons rfl (.cons rfl (.cons rfl .nil)))))) ?_
      repeat apply Sq
      apply Pn
      refine Jt (Z0 rfl) rfl ?_
      refine Jt (ZB (cc := ((i + 1 : Nat) : Int)) rfl rfl (by omega) (by omega) (by omega)) rfl ?_
      refine Jt (Z2 rfl) rfl ?_
      apply Ni
      repeat refine JX.normal_block ?_
      refine JX.roundS (i + 1) ?_ ?_ [1, 5, 6, 7, 8, 9] ?_ ?_ ?_
      · exact (by omega)
      · exact (by omega)
      · exact (.cons rfl (.cons rfl (.cons rfl (.cons rfl (.cons rfl (.cons rfl .nil))))))
      · repeat (first | exact .slnil | exact List.Sublist.refl _ | apply List.Sublist.cons_cons | apply List.Sublist.cons)
      · repeat (first | exact .slnil | exact List.Sublist.refl _ | apply List.Sublist.cons_cons | apply List.Sublist.cons)
    ·
      try simp only [dT, dF] at ht27
      repeat apply Sq
      refine J.exit ?_
      repeat first | refine Ht ?_ | refine Ms rfl ?_ | refine Ep ?_
      repeat first | apply Nx | apply Nb
      have hik : k = i := by omega
      subst hik
      repeat apply Sq
      apply Pn
      refine Jt (Z0 rfl) rfl ?_
      refine Jt (Z2i (u := bl (dW ++ mnL k)) rfl rfl (by refine Nat.le_trans (Nat.add_le_add (show _ ≤ 1000 by (first | decide | (rw [ZF]; omega) | (rw [ZF]; have : dW.length ≤ 100 := (by decide); simp only [List.length_append, List.length_replicate]; first | omega | (simp; omega) | (show _ + _ ≤ 1000; simp; omega)))) (show _ ≤ 1000 by (first | decide | (rw [ZF]; omega) | (rw [ZF]; have : dW.length ≤ 100 := (by decide); simp only [List.length_append, List.length_replicate]; first | omega | (simp; omega) | (show _ + _ ≤ 1000; simp; omega))))) (by decide)) (by first | exact Z39 _ _ | (rw [Z1S]; done) | (rw [Z1S]; rfl))) rfl ?_
      refine Jt (Z2i (u := bl (nsA k)) rfl rfl (by refine Nat.le_trans (Nat.add_le_add (show _ ≤ 1000 by (first | decide | (rw [ZF]; omega) | (rw [ZF]; have : dW.length ≤ 100 := (by decide); simp only [List.length_append, List.length_replicate]; first | omega | (simp; omega) | (show _ + _ ≤ 1000; simp; omega)))) (show _ ≤ 1000 by (first | decide | (rw [ZF]; omega) | (rw [ZF]; have : dW.length ≤ 100 := (by decide); simp only [List.length_append, List.length_replicate]; first | omega | (simp; omega) | (show _ + _ ≤ 1000; simp; omega))))) (by decide)) (by first | exact Z39 _ _ | (rw [Z1S]; done) | (rw [Z1S]; rfl))) rfl ?_
      refine Jt (Z2t rfl hP1 (fun F hF => by repeat (first | (rcases Mc.1 hF with rfl | hF; · (repeat first | exact Mh | apply Mt)) | (cases hF; done))) (.one rfl .nil)) rfl ?_
      refine Jt (Z0 rfl) rfl ?_
      refine Jt (Z1Q rfl) rfl ?_
      refine Jt (Z1R rfl) rfl ?_
      refine JO.alloc Z10 rfl fun b10 => ?_
      refine JO.m (Z4 rfl rfl (by repeat first | exact .here | apply Ut) (by exact Z15 rfl rfl) (by exact Z2j) Zl) (by rfl) ?_
      refine Jt (Z2 rfl) rfl ?_
      apply Ni
      repeat first | apply Nx | apply Nb
      refine Sl [1, 5, 7, 8, 10, 11] (.cons rfl (.cons rfl (.cons rfl (.cons rfl (.cons rfl (.cons rfl .nil)))))) ?_
      repeat apply Sq
      apply Pn
      refine Jt (Z0 rfl) rfl ?_
      refine Jt (Z2i (u := bl (dW ++ opL k)) rfl rfl (by refine Nat.le_trans (Nat.add_le_add (show _ ≤ 1000 by (first | decide | (rw [ZF]; omega) | (rw [ZF]; have : dW.length ≤ 100 := (by decide); simp only [List.length_append, List.length_replicate]; first | omega | (simp; omega) | (show _ + _ ≤ 1000; simp; omega)))) (show _ ≤ 1000 by (first | decide | (rw [ZF]; omega) | (rw [ZF]; have : dW.length ≤ 100 := (by decide); simp only [List.length_append, List.length_replicate]; first | omega | (simp; omega) | (show _ + _ ≤ 1000; simp; omega))))) (by decide)) (by first | exact Z39 _ _ | (rw [Z1S]; done) | (rw [Z1S]; rfl))) rfl ?_
      refine Jt (Z2i (u := bl (dW ++ opL k ++ [120])) rfl rfl (by refine Nat.le_trans (Nat.add_le_add (show _ ≤ 1000 by (first | decide | (rw [ZF]; omega) | (rw [ZF]; have : dW.length ≤ 100 := (by decide); simp only [List.length_append, List.length_replicate]; first | omega | (simp; omega) | (show _ + _ ≤ 1000; simp; omega)))) (show _ ≤ 1000 by (first | decide | (rw [ZF]; omega) | (rw [ZF]; have : dW.length ≤ 100 := (by decide); simp only [List.length_append, List.length_replicate]; first | omega | (simp; omega) | (show _ + _ ≤ 1000; simp; omega))))) (by decide)) (by first | exact Z39 _ _ | (rw [Z1S]; done) | (rw [Z1S]; rfl))) rfl ?_
      refine Jt (Z0 rfl) rfl ?_
      refine Jt (Z2i (u := bl (nsB k)) rfl rfl (by refine Nat.le_trans (Nat.add_le_add (show _ ≤ 1000 by (first | decide | (rw [ZF]; omega) | (rw [ZF]; have : dW.length ≤ 100 := (by decide); simp only [List.length_append, List.length_replicate]; first | omega | (simp; omega) | (show _ + _ ≤ 1000; simp; omega)))) (show _ ≤ 1000 by (first | decide | (rw [ZF]; omega) | (rw [ZF]; have : dW.length ≤ 100 := (by decide); simp only [List.length_append, List.length_replicate]; first | omega | (simp; omega) | (show _ + _ ≤ 1000; simp; omega))))) (by decide)) (by first | exact Z39 _ _ | (rw [Z1S]; done) | (rw [Z1S]; rfl))) rfl ?_
      refine Jt (Z2t rfl hP2 (fun F hF => by repeat (first | (rcases Mc.1 hF with rfl | hF; · (repeat first | exact Mh | apply Mt)) | (cases hF; done))) (.one rfl .nil)) rfl ?_
      refine Jt (Z0 rfl) rfl ?_
      refine Jt (Z1Q rfl) rfl ?_
      refine Jt (Z1R rfl) rfl ?_
      refine JO.alloc Z10 rfl fun b12 => ?_
      refine JO.m (Z4 rfl rfl (by repeat first | exact .here | apply Ut) (by exact Z15 rfl rfl) (by exact Z2j) Zl) (by rfl) ?_
      refine Jt (Z2 rfl) rfl ?_
      apply Ni
      repeat first | apply Nx | apply Nb
      refine Sl [1, 5, 10, 11, 12, 13] (.cons rfl (.cons rfl (.cons rfl (.cons rfl (.cons rfl (.cons rfl .nil)))))) ?_
      repeat apply Sq
      apply Pn
      refine Jt (Z2t rfl hP3 (fun F hF => by repeat (first | (rcases Mc.1 hF with rfl | hF; · (repeat first | exact Mh | apply Mt)) | (cases hF; done))) (.one rfl .nil)) rfl ?_
      refine Jt (Z0 rfl) rfl ?_
      refine Jt (Z1Q rfl) rfl ?_
      refine Jt (Z1R rfl) rfl ?_
      refine JO.alloc Z10 rfl fun b14 => ?_
      refine JO.m (Z4 rfl rfl (by repeat first | exact .here | apply Ut) (by exact Z15 rfl rfl) (by exact Z2j) Zl) (by rfl) ?_
      refine Jt (Z2 rfl) rfl ?_
      apply Ni
      repeat first | apply Nx | apply Nb
      refine Sl [1, 5, 10, 11, 12, 13, 14, 15] (.cons rfl (.cons rfl (.cons rfl (.cons rfl (.cons rfl (.cons rfl (.cons rfl (.cons rfl .nil)))))))) ?_
      refine J.front b12 (by repeat (first | exact .here | apply Front.there)) ?_
      refine J.openOwnSt fun vcb vnb vrb vib vfb vwb vgb vob vsb h1cb => ?_
      refine J.front b14 (by repeat (first | exact .here | apply Front.there)) ?_
      refine J.openOwnSt fun vcq vnq vrq viq vfq vwq vgq voq vsq h1cq => ?_
      repeat apply Sq
      refine J.reg0 hmx (by kernel_rfl) (by kernel_rfl) ?_
      refine Rq (Z0 rfl) ?_
      refine Rq (Z1e rfl rfl) ?_
      refine Rq (Z0 rfl) ?_
      refine Rq (Z3t rfl rfl) ?_
      refine Rq (Z86 Z89 rfl rfl) ?_
      refine Rq (Z0 rfl) ?_
      refine Rg rfl rfl rfl (fun hg => Z0 (.inl rfl)) ?_
      refine Rg rfl rfl rfl (fun hg => Z1o (.inr ⟨_, rfl, id⟩) (.inl rfl)) ?_
      refine Rg rfl rfl rfl (fun hg => Z0 (.inr ⟨_, rfl, id⟩)) ?_
      refine RT.gg rfl rfl rfl (fun hg => (Z0 (.inl rfl))) ?_
      refine RT.gg rfl rfl rfl (fun hg => (Z1o (.inr ⟨_, rfl, id⟩) (.inl rfl))) ?_
      refine Rg rfl rfl rfl (fun hg => ZD (.inr ⟨_, rfl, id⟩) (.inl rfl) (.inl rfl) (fun h => ⟨hg, h⟩)) ?_
      refine Rq (ZI rfl rfl rfl id) ?_
      refine Rq (Z0 rfl) ?_
      refine Rg rfl rfl rfl (fun hg => Z0 (.inl rfl)) ?_
      refine Rg rfl rfl rfl (fun hg => Z1o (.inr ⟨_, rfl, id⟩) (.inl rfl)) ?_
      refine Rq (ZI rfl rfl rfl id) ?_
      refine Rq (Z0 rfl) ?_
      refine Rg rfl rfl rfl (fun hg => Z0 (.inl rfl)) ?_
      refine Rg rfl rfl rfl (fun hg => Z1o (.inr ⟨_, rfl, id⟩) (.inl rfl)) ?_
      refine Rq (ZI rfl rfl rfl id) ?_
      refine Rq (Z0 rfl) ?_
      refine Rg rfl rfl rfl (fun hg => ZN (cs := [_, _, _, _, _, _, _, _, _, _, _, _, _, _]) Zc (.inl rfl) rfl rfl) ?_
      refine Rg rfl rfl rfl (fun hg => ZN (cs := [_, _, _, _, _, _, _, _, _, _, _, _, _, _]) Zc (.inl rfl) rfl rfl) ?_
      refine Rg rfl rfl rfl (fun hg => ZM (.inl rfl) (ZaR 0 0 delX (by rw [← eB]; exact hS2.1) (by rw [← eB]; exact hS2.2)) (.sub (.inr ⟨_, rfl, id⟩) (by rw [← eB]; exact Sub.st rfl fun X w hf w' hk => ⟨hf _ (by repeat first | exact Mh | apply Mt) w' hk, hf _ (by repeat first | exact Mh | apply Mt) w' hk, hf _ (by repeat first | exact Mh | apply Mt) w' hk, hf _ (by repeat first | exact Mh | apply Mt) w' hk, hf _ (by repeat first | exact Mh | apply Mt) w' hk, hf _ (by repeat first | exact Mh | apply Mt) w' hk, hf _ (by repeat first | exact Mh | apply Mt) w' hk, hf _ (by repeat first | exact Mh | apply Mt) w' hk, hf _ (by repeat first | exact Mh | apply Mt) w' hk⟩) (.sub (.inr ⟨_, rfl, id⟩) (by rw [← eC]; exact Sub.st rfl fun X w hf w' hk => ⟨hf _ (by repeat first | exact Mh | apply Mt) w' hk, hf _ (by repeat first | exact Mh | apply Mt) w' hk, hf _ (by repeat first | exact Mh | apply Mt) w' hk, hf _ (by repeat first | exact Mh | apply Mt) w' hk, hf _ (by repeat first | exact Mh | apply Mt) w' hk, hf _ (by repeat first | exact Mh | apply Mt) w' hk, hf _ (by repeat first | exact Mh | apply Mt) w' hk, hf _ (by repeat first | exact Mh | apply Mt) w' hk, hf _ (by repeat first | exact Mh | apply Mt) w' hk⟩) .nil))) ?_
      refine Rg rfl rfl rfl (fun hg => Z51 (.inr ⟨_, rfl, id⟩)) ?_
      refine Rq (ZI rfl rfl rfl id) ?_
      apply Rn
      refine FinS.nil0 ?_
      repeat first | apply Nx | apply Nb
      refine Sl [1, 5, 10, 11, 82] (.cons rfl (.cons rfl (.cons rfl (.cons rfl (.cons rfl .nil))))) ?_
      repeat apply Sq
      refine Cd rfl (fun ht82 => ?_) (fun ht82 => ?_)
      ·
        try simp only [dT, dF] at ht82
        repeat apply Sq
        apply Pn
        refine Jt (Z2 rfl) rfl ?_
        apply Ni
        repeat first | apply Nx | apply Nb
        refine Sl [4] (.cons rfl .nil) ?_
        repeat apply Sq
        apply Rt
        repeat first | apply Rp | apply Rb
        exact JX.ret1is rfl rfl (by exact absurd ht82 (by rw [ZfS hA1 hB.1 hC.1]; decide))
      ·
        try simp only [dT, dF] at ht82
        apply Sk
        repeat first | apply Nx | apply Nb
        refine J.front b10 (by repeat (first | exact .here | apply Front.there)) ?_
        refine J.openOwnSt fun vca vna vra via vfa vwa vga voa vsa h1ca => ?_
        refine J.shapeE (xs := p1.1.where_) (v := vwa) (by repeat first | exact Mh | apply Mt) (fun pw aw lw cw bw ow_ hpw hvw hlw haw => ?_)
        subst hvw
        have nw : lw = p1.1.where_.length := by rw [← hlw, ← hpw, List.length_map]
        refine J.fact (KidsR p1.1.where_ aw lw) (fun X w hF _ w' hk => by rw [← hpw]; exact Cel.kids (hF (RowG Cel.cs 8 pw aw lw) (by repeat first | exact Mh | apply Mt) w' hk) (hF (CelF exE pw) (by repeat first | exact Mh | apply Mt) w' hk)) ?_
        have h1w : p1.2 = 0 → p1.1.where_.length = 1 := fun h => ZfQ hA2 h
        have h1x : p1.2 = 0 → p1.1.where_[0]? = some (p1.1.where_.headD ex0) := fun h => Zfl (h1w h)
        have h1e : p1.2 = 0 → ect (p1.1.where_.headD ex0) ≤ 4096 := fun h => hS1.2 _ (Zg2 (h1w h))
        repeat apply Sq
        refine J.reg0 hmx (by kernel_rfl) (by kernel_rfl) ?_
        refine Rq (Z0 rfl) ?_
        refine Rq (Z1e rfl rfl) ?_
        refine Rq (Z0 rfl) ?_
        refine Rg rfl rfl rfl (fun hg => Z1 Z1r (.inl rfl)) ?_
        refine Rg rfl rfl rfl (fun hg => Z3 Zf (.inr ⟨_, rfl, id⟩) rfl) ?_
        refine Rg rfl rfl rfl (fun hg => Z7 Z1c (.inr ⟨_, rfl, id⟩) (haw (by have := h1w (by simpa using hg); omega)) (.inl rfl) (by omega) (by have := h1w (by simpa using hg); omega)) ?_
        refine Rg rfl rfl rfl (fun hg => Z3H (i := 0) (kid := p1.1.where_.headD ex0) Zd (.inr ⟨_, rfl, id⟩) (by repeat first | exact Mh | apply Mt) (haw (by have := h1w (by simpa using hg); omega)) (h1x (by simpa using hg)) rfl) ?_
        refine Rg rfl rfl rfl (fun hg => ZM (.inl rfl) (Z6G 4096 (p1.1.where_.headD ex0) (h1e (by simpa using hg)) (h1e (by simpa using hg))) (.one (.inr ⟨_, rfl, id⟩) .nil)) ?_
        refine Rg rfl rfl rfl (fun hg => Z0 (.inl rfl)) ?_
        refine Rg rfl rfl rfl (fun hg => ZB (cc := ((k + 2 : Nat) : Int)) (.inr ⟨_, rfl, id⟩) (.inl rfl) (by omega) (by omega) (by omega)) ?_
        refine Rg rfl rfl rfl (fun hg => Z1o (.inr ⟨_, rfl, id⟩) (.inr ⟨_, rfl, id⟩)) ?_
        refine Rq (ZD rfl rfl rfl id) ?_
        apply Rn
        refine FinS.nil0 ?_
        repeat first | apply Nx | apply Nb
        refine Sl [1, 94] (.cons rfl (.cons rfl .nil)) ?_
        repeat apply Sq
        refine Cd rfl (fun ht94 => ?_) (fun ht94 => ?_)
        ·
          try simp only [dT, dF] at ht94
          repeat apply Sq
          apply Pn
          refine Jt (Z2 rfl) rfl ?_
          apply Ni
          repeat first | apply Nx | apply Nb
          refine Sl [4] (.cons rfl .nil) ?_
          repeat apply Sq
          apply Rt
          repeat first | apply Rp | apply Rb
          exact JX.ret1is rfl rfl (by exact absurd ht94 (by rw [ZfZ hA2]; decide))
        ·
          try simp only [dT, dF] at ht94
          apply Sk
          repeat first | apply Nx | apply Nb
          repeat apply Sq
          apply Pn
          refine Jt (Zv (cs := [_, _, _, _, _, _, _, _, _]) ZbT (.cons rfl (.cons rfl (.cons rfl (.cons rfl (.cons rfl (.cons rfl (.cons rfl (.cons rfl (.cons rfl .nil))))))))) rfl rfl) rfl ?_
          refine Jt (Z0 rfl) rfl ?_
          refine Jt (Zdz rfl rfl (by first | decide | (simp at hg; omega) | simp_all)) rfl ?_
          refine Jt (Zc4 (n := 9) (e := 9) (by kernel_rfl) Zr (by kernel_rfl) rfl rfl (by omega) (by omega) (ZhD hj hj9 hg0)) rfl ?_
          refine Jt (Z2 rfl) rfl ?_
          apply Ni
          repeat first | apply Nx | apply Nb
          refine Sl [16] (.cons rfl .nil) ?_
          repeat apply Sq
          apply Pn
          refine Jt (Z0 rfl) rfl ?_
          refine Jt (Z2i (u := bl (dW ++ [97, 32] ++ g)) rfl rfl (by refine Nat.le_trans (Nat.add_le_add (show _ ≤ 1000 by (first | decide | (rw [ZF]; omega) | (rw [ZF]; have : dW.length ≤ 100 := (by decide); simp only [List.length_append, List.length_replicate]; first | omega | (simp; omega) | (show _ + _ ≤ 1000; simp; omega)))) (show _ ≤ 1000 by (first | decide | (rw [ZF]; omega) | (rw [ZF]; have : dW.length ≤ 100 := (by decide); simp only [List.length_append, List.length_replicate]; first | omega | (simp; omega) | (show _ + _ ≤ 1000; simp; omega))))) (by decide)) (by first | exact Z39 _ _ | (rw [Z1S]; done) | (rw [Z1S]; rfl))) rfl ?_
          refine Jt (Z2i (u := bl (dW ++ [97, 32] ++ g ++ [32, 98, 32])) rfl rfl (by refine Nat.le_trans (Nat.add_le_add (show _ ≤ 1000 by (first | decide | (rw [ZF]; omega) | (rw [ZF]; have : dW.length ≤ 100 := (by decide); simp only [List.length_append, List.length_replicate]; first | omega | (simp; omega) | (show _ + _ ≤ 1000; simp; omega)))) (show _ ≤ 1000 by (first | decide | (rw [ZF]; omega) | (rw [ZF]; have : dW.length ≤ 100 := (by decide); simp only [List.length_append, List.length_replicate]; first | omega | (simp; omega) | (show _ + _ ≤ 1000; simp; omega))))) (by decide)) (by first | exact Z39 _ _ | (rw [Z1S]; done) | (rw [Z1S]; rfl))) rfl ?_
          refine Jt (Z0 rfl) rfl ?_
          refine Jt (Z2i (u := bl (dW ++ [97, 32] ++ g ++ [32, 98, 32] ++ g)) rfl rfl (by refine Nat.le_trans (Nat.add_le_add (show _ ≤ 1000 by (first | decide | (rw [ZF]; omega) | (rw [ZF]; have : dW.length ≤ 100 := (by decide); simp only [List.length_append, List.length_replicate]; first | omega | (simp; omega) | (show _ + _ ≤ 1000; simp; omega)))) (show _ ≤ 1000 by (first | decide | (rw [ZF]; omega) | (rw [ZF]; have : dW.length ≤ 100 := (by decide); simp only [List.length_append, List.length_replicate]; first | omega | (simp; omega) | (show _ + _ ≤ 1000; simp; omega))))) (by decide)) (by first | exact Z39 _ _ | (rw [Z1S]; done) | (rw [Z1S]; rfl))) rfl ?_
          refine Jt (Z2i (u := bl (nsD g)) rfl rfl (by refine Nat.le_trans (Nat.add_le_add (show _ ≤ 1000 by (first | decide | (rw [ZF]; omega) | (rw [ZF]; have : dW.length ≤ 100 := (by decide); simp only [List.length_append, List.length_replicate]; first | omega | (simp; omega) | (show _ + _ ≤ 1000; simp; omega)))) (show _ ≤ 1000 by (first | decide | (rw [ZF]; omega) | (rw [ZF]; have : dW.length ≤ 100 := (by decide); simp only [List.length_append, List.length_replicate]; first | omega | (simp; omega) | (show _ + _ ≤ 1000; simp; omega))))) (by decide)) (by first | exact Z39 _ _ | (rw [Z1S]; done) | (rw [Z1S]; rfl))) rfl ?_
          refine Jt (Z2t rfl hP4 (fun F hF => by repeat (first | (rcases Mc.1 hF with rfl | hF; · (repeat first | exact Mh | apply Mt)) | (cases hF; done))) (.one rfl .nil)) rfl ?_
          refine Jt (Z0 rfl) rfl ?_
          refine Jt (Z1Q rfl) rfl ?_
          refine Jt (Z1R rfl) rfl ?_
          refine JO.alloc Z10 rfl fun b17 => ?_
          refine JO.m (Z4 rfl rfl (by repeat first | exact .here | apply Ut) (by exact Z15 rfl rfl) (by exact Z2j) Zl) (by rfl) ?_
          refine Jt (Z2 rfl) rfl ?_
          apply Ni
          repeat first | apply Nx | apply Nb
          refine Sl [17, 18] (.cons rfl (.cons rfl .nil)) ?_
          refine J.front b17 (by repeat (first | exact .here | apply Front.there)) ?_
          refine J.openOwnSt fun vcd vnd vrd vid vfd vwd vgd vod vsd h1cd => ?_
          refine J.shapeE (xs := p4.1.where_) (v := vwd) (by repeat first | exact Mh | apply Mt) (fun pu au lu cu bu ou_ hpu hvu hlu hau => ?_)
          subst hvu
          have nu : lu = 1 := by rw [← hlu, ← List.length_map (f := Cel.x), hpu, hw4]; rfl
          have hi0 : 0 < pu.length := by omega
          repeat apply Sq
          refine J.reg0 hmx (by kernel_rfl) (by kernel_rfl) ?_
          refine Rq (Z0 rfl) ?_
          refine Rq (Z1o rfl rfl) ?_
          refine Rq (Z0 rfl) ?_
          refine Rg rfl rfl rfl (fun hg => Z1 Z1r (.inl rfl)) ?_
          refine Rg rfl rfl rfl (fun hg => Z3 Zf (.inr ⟨_, rfl, id⟩) rfl) ?_
          refine Rg rfl rfl rfl (fun hg => Zq Zk (.inr ⟨_, rfl, id⟩)) ?_
          refine Rg rfl rfl rfl (fun hg => Z1o (.inr ⟨_, rfl, id⟩) (.inl rfl)) ?_
          refine Rq (ZI rfl rfl rfl id) ?_
          apply Rn
          refine FinS.nil0 ?_
          repeat first | apply Nx | apply Nb
          refine Sl [17, 116] (.cons rfl (.cons rfl .nil)) ?_
          repeat apply Sq
          refine Cd rfl (fun ht116 => ?_) (fun ht116 => ?_)
          ·
            try simp only [dT, dF] at ht116
            repeat apply Sq
            apply Pn
            refine Jt (Z2 rfl) rfl ?_
            apply Ni
            repeat first | apply Nx | apply Nb
            refine Sl [4] (.cons rfl .nil) ?_
            repeat apply Sq
            apply Rt
            repeat first | apply Rp | apply Rb
            exact JX.ret1is rfl rfl (by exact absurd ht116 (by rw [e4, nu]; decide))
          ·
            try simp only [dT, dF] at ht116
            apply Sk
            repeat first | apply Nx | apply Nb
            repeat apply Sq
            apply Pn
            refine Jt (Z1 Z1r rfl) rfl ?_
            refine Jt (Z3 Zf rfl rfl) rfl ?_
            refine Jt (Z7 Z1c rfl (hau (by omega)) rfl (by omega) (by omega)) rfl ?_
            refine Jt (Z34 (enc := @Cel.cs _ exE) (sz := 8) (i := 0) (y := pu[0]'hi0) (cs := (pu[0]'hi0).cs) (by rw [(pu[0]'hi0).h]; exact Zd) rfl (by repeat first | exact Mh | apply Mt) (hau (by omega)) (List.getElem?_eq_getElem _) rfl rfl) rfl ?_
            refine JO.alloc ZY rfl fun b19 => ?_
            refine JO.m (Z4 rfl rfl (by repeat first | exact .here | apply Ut) (by exact Z15 rfl rfl) (by exact Z15 (show (pu[0]'hi0).cs.toArray.size = 8 by rw [List.size_toArray]; exact (pu[0]'hi0).h) (List.all_eq_true.2 fun u hu => (pu[0]'hi0).o u hu)) Zn) (by rfl) ?_
            apply Ni
            repeat first | apply Nx | apply Nb
            refine Sl [19] (.cons rfl .nil) ?_
            have hx0 : (pu[0]'hi0).x = x := by have h0 := congrArg (fun l => l[0]?) (hpu.trans hw4); simp only [List.getElem?_map] at h0; rw [List.getElem?_eq_getElem hi0] at h0; simpa using h0
            refine J.fact (ExR x (.agg (pu[0]'hi0).cs.toArray)) (fun X w hF _ w' hk => by rw [← hx0]; exact hF (CelF exE pu) (by repeat first | exact Mh | apply Mt) w' hk _ (List.getElem_mem _)) ?_
            obtain ⟨cq, hcq⟩ : ∃ cq, cq = (pu[0]'hi0).cs := ⟨_, rfl⟩
            rw [← hcq]
            refine J.exFact (x := x) (cs := cq) (by repeat first | exact Mh | apply Mt) (fun ak lk ck bk ok_ hcs hlk hak => ?_)
            rw [hcs]
            have lk2 : lk = 2 := by rw [← hlk, hxk]; rfl
            refine J.fact (ExsR x.KS (.slice ak lk ck)) (fun X w hF _ w' hk => ⟨ak, lk, ck, rfl, hF (KidsR x.KS ak lk) (by repeat first | exact Mh | apply Mt) w' hk⟩) ?_
            refine J.shapeX (xs := x.KS) (v := .slice ak lk ck) (by repeat first | exact Mh | apply Mt) (fun pk ax lx cx bx ox_ hpk hvx hlx hax => ?_)
            injection hvx with hv1 hv2 hv3
            subst hv1 hv2 hv3
            have hk0 : 0 < pk.length := by omega
            have hy0 : (pk[0]'hk0).x = y := by have h0 := congrArg (fun l => l[0]?) (hpk.trans hxk); simp only [List.getElem?_map] at h0; rw [List.getElem?_eq_getElem hk0] at h0; simpa using h0
            refine J.fact (ExR y (.agg (pk[0]'hk0).cs.toArray)) (fun X w hF _ w' hk => by rw [← hy0]; exact hF (CelF exE pk) (by repeat first | exact Mh | apply Mt) w' hk _ (List.getElem_mem _)) ?_
            refine J.exFact (x := y) (cs := (pk[0]'hk0).cs) (by repeat first | exact Mh | apply Mt) (fun ay ly cy by_ oy hcy hly hay => ?_)
            have ly2 : ly = 2 := by rw [← hly, hyk]; rfl
            repeat apply Sq
            refine J.reg0 hmx (by kernel_rfl) (by kernel_rfl) ?_
            refine Rq (Z1 Z1s rfl) ?_
            refine Rq (Z3 Zf rfl rfl) ?_
            refine Rq (Zq Zk rfl) ?_
            refine Rq (Z1e rfl rfl) ?_
            refine Rq (Z0 rfl) ?_
            refine Rg rfl rfl rfl (fun hg => Z1 Z1s (.inl rfl)) ?_
            refine Rg rfl rfl rfl (fun hg => Z3 Zf (.inr ⟨_, rfl, id⟩) rfl) ?_
            refine Rg rfl rfl rfl (fun hg => Z7 Z1c (.inr ⟨_, rfl, id⟩) (hax (by omega)) (.inl rfl) (by omega) (by omega)) ?_
            refine Rg rfl rfl rfl (fun hg => Z1 Z1s (.inr ⟨_, rfl, id⟩)) ?_
            refine Rg rfl rfl rfl (fun hg => ZA (enc := @Cel.cs _ exE) (sz := 8) (i := 0) (j := 7) (y := pk[0]'hk0) (u := .slice ay ly cy) Zf (.inr ⟨_, rfl, id⟩) (by repeat first | exact Mh | apply Mt) (hax (by omega)) (List.getElem?_eq_getElem _) rfl (by rw [hcy]; rfl)) ?_
            refine Rg rfl rfl rfl (fun hg => Zq Zk (.inr ⟨_, rfl, id⟩)) ?_
            refine Rg rfl rfl rfl (fun hg => Z1e (.inr ⟨_, rfl, id⟩) (.inl rfl)) ?_
            refine Rq (ZD rfl rfl rfl id) ?_
            refine Rq (Z0 rfl) ?_
            refine Rg rfl rfl rfl (fun hg => Z1 Z1s (.inl rfl)) ?_
            refine Rg rfl rfl rfl (fun hg => Z3 Zf (.inr ⟨_, rfl, id⟩) rfl) ?_
            refine Rg rfl rfl rfl (fun hg => Z7 Z1c (.inr ⟨_, rfl, id⟩) (hax (by omega)) (.inl rfl) (by omega) (by omega)) ?_
            refine Rg rfl rfl rfl (fun hg => Z1 Z38 (.inr ⟨_, rfl, id⟩)) ?_
            refine Rg rfl rfl rfl (fun hg => ZA (enc := @Cel.cs _ exE) (sz := 8) (i := 0) (j := 0) (y := pk[0]'hk0) (u := .int .i64 y.K) Zy (.inr ⟨_, rfl, id⟩) (by repeat first | exact Mh | apply Mt) (hax (by omega)) (List.getElem?_eq_getElem _) rfl (by rw [hcy]; rfl)) ?_
            refine Rg rfl rfl rfl (fun hg => Z1 Z38 (.inl rfl)) ?_
            refine Rg rfl rfl rfl (fun hg => Z3 Zy (.inr ⟨_, rfl, id⟩) rfl) ?_
            refine Rg rfl rfl rfl (fun hg => Z1e (.inr ⟨_, rfl, id⟩) (.inr ⟨_, rfl, id⟩)) ?_
            refine Rq (ZD rfl rfl rfl id) ?_
            refine Rq (Z0 rfl) ?_
            refine Rg rfl rfl rfl (fun hg => Z1 Z1s (.inl rfl)) ?_
            refine Rg rfl rfl rfl (fun hg => Z3 Zf (.inr ⟨_, rfl, id⟩) rfl) ?_
            refine Rg rfl rfl rfl (fun hg => Z7 Z1c (.inr ⟨_, rfl, id⟩) (hax (by omega)) (.inl rfl) (by omega) (by omega)) ?_
            refine Rg rfl rfl rfl (fun hg => Z1 Z1s (.inr ⟨_, rfl, id⟩)) ?_
            refine Rg rfl rfl rfl (fun hg => ZA (enc := @Cel.cs _ exE) (sz := 8) (i := 0) (j := 7) (y := pk[0]'hk0) (u := .slice ay ly cy) Zf (.inr ⟨_, rfl, id⟩) (by repeat first | exact Mh | apply Mt) (hax (by omega)) (List.getElem?_eq_getElem _) rfl (by rw [hcy]; rfl)) ?_
            refine Rg rfl rfl rfl (fun hg => Z7 Z1c (.inr ⟨_, rfl, id⟩) (hay (by omega)) (.inl rfl) (by omega) (by omega)) ?_
            refine Rg rfl rfl rfl (fun hg => Z1 Z3c (.inr ⟨_, rfl, id⟩)) ?_
            refine Rg rfl rfl rfl (fun hg => Zbe (kids := y.KS) (i := 0) (x := u) (j := 5) (u := .string u.NM) Zr (.inr ⟨_, rfl, id⟩) (by repeat first | exact Mh | apply Mt) (hay (by omega)) (by rw [hyk]; rfl) rfl (fun _ _ _ => rfl)) ?_
            refine Rg rfl rfl rfl (fun hg => Z3B (.inr ⟨_, rfl, id⟩) (.inl rfl)) ?_
            refine Rq (ZD rfl rfl rfl id) ?_
            refine Rq (Z2 rfl) ?_
            apply Rn
            refine FinS.nil0 ?_
            repeat first | apply Nx | apply Nb
            refine Sl [4] (.cons rfl .nil) ?_
            repeat apply Sq
            apply Rt
            repeat first | apply Rp | apply Rb
            exact JX.ret1is rfl rfl (by simp [lk2, ly2, hyx, hun, seq])
end Go.Proofs.YtbedigkncjbggaaGreatDoor
set_option maxRecDepth 100000
namespace Go.Proofs.YtbedigkncjbggaaGreatDoor
open Go Go.Vc Go.Shelf Go.ChangeShapes Go.WideShapes Go.ChangeAt Go.RowKit
theorem own : ownKnob Tryz.prog.godebug = none := by kernel_rfl
theorem laidOut : laidOutB Tryz.prog = true := by kernel_rfl
def litCells : DataW Unit → Array Value
 | .agg l => (l.map fun | .lit (.int k z) => Value.int k z | _ => undef).toArray
 | _ => #[]
def accCells : Array Value := ((List.range 16).flatMap fun i => [Value.int .u8 (Lib.accLo i), Value.int .u8 (Lib.accHi i)]).toArray
def wsCells : Array Value := ([9, 13, 1, 32, 133, 101, 160, 5760, 5600, 8192, 8202, 1, 8232, 8233, 1, 8239, 8287, 48, 12288, 12288, 1].map fun z => Value.int .u16 z).toArray
noncomputable def laidWorld (os : Os) : World :=
 let N := (World.settled Tryz.prog os).heap.size
 let w0 := World.holding Tryz.prog os ⟨#[.cells Lib.caseCells5 (Z3O.t 208), .cells #[.slice (some ⟨N + 2, 0, none⟩) 7 7, .slice none 0 0, .int .i64 2] 217, .cells wsCells 220], #[], []⟩
 let put (h : Array Obj) (g : Nat) (cs : Array Value) : Array Obj := h.modify g fun
  | .cells _ t frozen => .cells cs t frozen
  | o => o
 let h0 := put w0.heap 0 (litCells Rows.laid_strings_asciiSpace)
 let h3 := put h0 3 #[.slice (some ⟨N, 0, none⟩) 336 336]
 let h4 := put h3 4 #[.pointer (some ⟨N + 1, 0, none⟩)]
 let h5 := put h4 5 (Lib.firstTab.map fun z => Value.int .u8 z).toArray
 let h6 := put h5 6 accCells
 let h2 := put h6 2 (litCells Rows.laid_internal_strconv_uint64pow10)
 let h7 := put h2 7 (litCells Rows.laid_math_bits_deBruijn32tab)
 let h8 := put h7 8 (litCells Rows.laid_math_bits_deBruijn64tab)
 { w0 with heap := h8 }
noncomputable abbrev N0 : Nat := (World.settled Tryz.prog default).heap.size
noncomputable abbrev LW (os : Os) (args : Array Value) : World := ((laidWorld os).forCall (fun _ _ => 0) ⟨#[], args, []⟩).memory
theorem Zec (os : Os) (args : Array Value) : LaidIn Tryz.prog (LW os args) [("unicode/utf8.acceptRanges", Rows.laid_unicode_utf8_acceptRanges)] [6] :=
 LaidIn.of_run [6] 8 (by kernel_rfl) (by kernel_rfl) (by kernel_rfl) (by kernel_rfl)
theorem ZbJ (os : Os) (args : Array Value) : LaidIn Tryz.prog (LW os args) [("unicode/utf8.first", Rows.laid_unicode_utf8_first)] [5] :=
 LaidIn.of_run [5] 8 (by kernel_rfl) (by kernel_rfl) (by kernel_rfl) (by kernel_rfl)
theorem Zc6 {P : Program} {ρ : Ren} (L : Lays.n274 P ρ) (t206 : P.underlying (ρ.t 206) = some (.array 3 (ρ.t 21))) (X : CaseExtra P ρ) {w : World} (R : Nat) (t : TypeId) (hgR : ρ.g 13 ≠ R)
    (hvar : w.heap[ρ.g 13]? = some (.cells #[.slice (some ⟨R, 0, none⟩) Lib.caseA.size Lib.caseA.size] (ρ.t 162) (0, 0)))
    (hblk : w.heap[R]? = some (.cells Lib.caseCells5 t (0, 0))) : LaidIn P w [("unicode.CaseRanges", Lib.caseData)] [ρ.g 13, R] := by
  have hT := caseTab_of_block hblk
  have hread := case_slice_reads L t206 X hT caseA_wf (by rw [Lib.caseA_size]; unfold maxLen; omega) 0
  rw [case_rows_data] at hread
  have hv : w.var? P "unicode.CaseRanges" = some #[.slice (some ⟨R, 0, none⟩) Lib.caseA.size Lib.caseA.size] := by simp [World.var?, X.n13, hvar]
  refine LaidIn.one (cs := #[.slice (some ⟨R, 0, none⟩) Lib.caseA.size Lib.caseA.size]) [ρ.g 13, R] X.n13 X.y13 hv hread ?_ ?_ ?_
  · refine List.nodup_append.2 ⟨row_nodup _ _, row_nodup _ _, ?_⟩
    intro a ha b hb e
    obtain ⟨i, _, rfl⟩ := MemPlace.mem_row.1 ha
    obtain ⟨j, _, rfl⟩ := MemPlace.mem_row.1 hb
    simp at e
    exact hgR e.1
  · intro b off hp
    rcases List.mem_append.1 hp with hp | hp
    · obtain ⟨i, hi, e⟩ := MemPlace.mem_row.1 hp
      cases e
      refine ⟨⟨_, _, hvar⟩, fun u v hc => ?_⟩
      obtain rfl : i = 0 := by simp at hi; omega
      rw [Lib.cell_of_heap hvar] at hc
      simp at hc
    · obtain ⟨i, hi, e⟩ := MemPlace.mem_row.1 hp
      cases e
      refine ⟨⟨_, _, hblk⟩, fun u v hc => ?_⟩
      obtain ⟨c0, c1, c2, c3, c4⟩ := hT (i / 5) (by omega)
      have hi5 : 0 + i = 0 + i / 5 * 5 + i % 5 := by omega
      simp only at hc
      rw [hi5] at hc
      have hm : i % 5 < 5 := Nat.mod_lt _ (by omega)
      match hk : i % 5, hm with
      | 0, _ => rw [hk, Nat.add_zero, c0] at hc; cases hc
      | 1, _ => rw [hk, c1] at hc; cases hc
      | 2, _ => rw [hk, c2] at hc; cases hc
      | 3, _ => rw [hk, c3] at hc; cases hc
      | 4, _ => rw [hk, c4] at hc; cases hc
  · intro x hx
    rcases List.mem_append.1 hx with hx | hx
    · obtain ⟨i, _, rfl⟩ := MemPlace.mem_row.1 hx
      exact List.mem_cons_self
    · obtain ⟨i, _, rfl⟩ := MemPlace.mem_row.1 hx
      exact List.mem_cons_of_mem _ List.mem_cons_self
theorem caseX : CaseExtra Tryz.prog Z3O := ⟨by kernel_rfl, by kernel_rfl, by kernel_rfl, by kernel_rfl, by kernel_rfl, by kernel_rfl⟩
theorem ZcW (os : Os) (args : Array Value) : LaidIn Tryz.prog (LW os args) [("unicode.CaseRanges", Rows.laid_unicode_CaseRanges)] [3, N0] := by
 show LaidIn Tryz.prog (LW os args) [("unicode.CaseRanges", Go.Pinned.caseRanges)] [3, N0]
 rw [Pinned.caseRanges_eq]
 exact Zc6 { lays158 with } lays158.t206 caseX N0 (Z3O.t 208) (of_decide_eq_true (by kernel_rfl)) (by kernel_rfl) (by kernel_rfl)
theorem Zfz (os : Os) (args : Array Value) : LaidIn Tryz.prog (LW os args) [("unicode.White_Space", Rows.laid_unicode_White_Space)] [4, N0 + 1, N0 + 2] :=
 LaidIn.of_run [4, N0 + 1, N0 + 2] 8 (by kernel_rfl) (by kernel_rfl) (by kernel_rfl) (by kernel_rfl)
theorem ZeC (os : Os) (args : Array Value) : LaidIn Tryz.prog (LW os args) [("strings.asciiSpace", Rows.laid_strings_asciiSpace)] [0] :=
 LaidIn.of_run [0] 8 (by kernel_rfl) (by kernel_rfl) (by kernel_rfl) (by kernel_rfl)
theorem ZdG (os : Os) (args : Array Value) : laidMet Tryz.prog Rows.parseOnceRow.laid (LW os args) :=
 (((((Zec os args).append (Zfz os args) (by kernel_rfl)).append (ZeC os args) (by kernel_rfl)).append (ZcW os args) (by kernel_rfl)).append (ZbJ os args) (by kernel_rfl)).met
end Go.Proofs.YtbedigkncjbggaaGreatDoor
set_option maxRecDepth 100000
namespace Go.Proofs.YtbedigkncjbggaaGreatDoor
open Go Go.Vc Go.ChangeShapes Go.WideShapes Go.ChangeAt Go.RowKit
theorem ZdT {W : World} (h : W.ShapedOpen Tryz.prog) : GF W :=
 cell_of_shapedOpen_int (zero := #[.int .i64 0]) (t := 3) h (of_decide_eq_true (by kernel_rfl)) (by kernel_rfl) rfl (by kernel_rfl) (by kernel_rfl) Tryz.underlying3
theorem ZdO {W : World} {a : Addr} {v : Value} (h : W.cell? a = some v) : ∀ w', Keeps noX W w' → w'.cell? a = some v := fun w' hk => by
  unfold World.cell? at h ⊢
  cases hb : W.heap[a.block]? with
  | none => rw [hb] at h; simp at h
  | some o =>
    rw [hk.get hb (fun h => h)]
    rw [hb] at h
    exact h
theorem Zg4 {W : World} (h : GF W) : Pers noX W GF := fun w' hk => by
 obtain ⟨m, hm⟩ := h
 exact ⟨m, ZdO hm w' hk⟩
theorem Zbs : Tryz.prog.readableRec Z2h = true ∧ Z2h < Tryz.prog.types.size := ⟨by kernel_rfl, of_decide_eq_true (by kernel_rfl)⟩
theorem Zgh {W : World} (h : laidMetH Tryz.prog Rows.parseOnceRow.laid W) : AF W := by
 have h1 : laidMet Tryz.prog Rows.parseOnceRow.laid W := h
 exact Lib.tabIs_of_head (t := 187) (e := 5) (n := 256) (by kernel_rfl : Tryz.prog.globalNamed "strings.asciiSpace" = some 0) (by kernel_rfl) (by kernel_rfl) (by kernel_rfl) (by kernel_rfl) (by kernel_rfl) (laidMet.tail (laidMet.tail h1))
theorem ZfR {W : World} (h : AF W) : Pers noX W AF := fun w' hk =>
 Joins.tab_stays (by kernel_rfl : Tryz.prog.globalNamed "strings.asciiSpace" = some 0) h hk.below (Nat.le_refl _)
end Go.Proofs.YtbedigkncjbggaaGreatDoor
set_option maxRecDepth 100000
namespace Go.Proofs.YtbedigkncjbggaaGreatDoor
open Go Go.Vc Go.ChangeShapes Go.WideShapes Go.ChangeAt Go.RowKit
open Go.ChangeMaps (open_string)
theorem Z97 (os : Os) (args : Array Value) : laidMet Tryz.prog Rows.parseNestsRow.laid (LW os args) := ZdG os args
theorem Z7U (os : Os) {H : Type} (enc : TypeId × Value → H) :
  (OpenSpec.ofChange Rows.parseNestsSpec).preRow enc Tryz.prog Tryz.f5 Rows.parseNestsRow.domain false Rows.parseNestsRow.laid (LW os #[.int .u8 0, .int .u8 0]) #[.int .u8 0, .int .u8 0] := by
 have hw : (DataW.whole enc Tryz.prog (LW os #[.int .u8 0, .int .u8 0]) Tryz.f5.params.toList Rows.parseNestsSpec.vars false (#[.int .u8 0, .int .u8 0] : Array Value).toList 8).map (fun x => (x.1, x.2.1)) = some ([.lit (.int .u8 0), .lit (.int .u8 0)], []) := by kernel_rfl
 obtain ⟨⟨x1, x2, x3⟩, hx, hx1⟩ := Option.map_eq_some_iff.1 hw
 simp only [Prod.mk.injEq] at hx1
 obtain ⟨rfl, rfl⟩ := hx1
 exact OpenSpec.preRow_of_cond 8 hx (by kernel_rfl) (fun k hk => by cases hk) (by kernel_rfl) (Z97 os _)
set_option maxHeartbeats 2000000 in
theorem Z8h (os : Os) (started : os.Started) (H : Type) (enc : TypeId × Value → H) (F : Stop.Interp) :
    ReturnsInHanded {} Tryz.checked os 5 .any ((OpenSpec.ofChange Rows.parseNestsSpec).preRow enc Tryz.prog Tryz.f5 Rows.parseNestsRow.domain false Rows.parseNestsRow.laid) (((OpenSpec.ofChange Rows.parseNestsSpec).at F).post enc Tryz.prog Tryz.f5 false true false false) := by
  refine returnsInHanded_of_row (C := Tryz.checked) (s := OpenSpec.ofChange Rows.parseNestsSpec) own started (by kernel_rfl) Tryz.func5
    (witness_row_atRef (enc := enc) (C := Tryz.checked) false (laidWorld os) #[.int .u8 0, .int .u8 0] rfl (by kernel_rfl) (by kernel_rfl) (by kernel_rfl) (Z7U os enc)) ?_
  intro W base args ds gs before hval0 hW _ _ hsz0 hL hsh _
  have hW' := hW
  obtain ⟨p, q, hA0, hV, rfl, hfz, hnd⟩ := hW
  have hA : DataW.TrodAll enc Tryz.prog W 0 (fun _ => true) true [Z2h, Z2h] args.toList ds p := hA0
  have hgf := Zg4 (ZdT hsh)
  have haf := ZfR (Zgh hL)
  obtain ⟨v0, v1, d0, d1, p0, p1, rfl, rfl, rfl, h0, h1⟩ := trodAll_two hA
  obtain ⟨rfl, rfl⟩ := trodVars_none hV
  obtain ⟨n, rfl, rfl, rfl, w0⟩ := open_int Z4L (hval0 0 Z2h v0 rfl rfl) h0
  have hn := ZfO w0
  obtain ⟨c, rfl, rfl, rfl, w1⟩ := open_int Z4L (hval0 1 Z2h v1 rfl rfl) h1
  have hc := ZfO w1
  refine ((Z80 n c hn hc).calls noX W [.int .u8 n, .int .u8 c] (fun _ h => h.elim) (fun F hF => by rcases Mc.1 hF with rfl | hF; exact fun w' _ => Nat.zero_le _; rcases Mc.1 hF with rfl | hF; exact hgf; rcases Mc.1 hF with rfl | hF; exact haf; cases hF) ⟨rfl, rfl, trivial⟩).mono fun e W' ⟨v, he, hk, hR⟩ => ?_
  subst he
  have hR' : v = .bool true := hR
  subst hR'
  exact ⟨_, rfl, Zet (f := Tryz.f5) (s := Rows.parseNestsSpec) (tB := ZcG) laidOut (mem2 Zbs Zbs) (by kernel_rfl) (by kernel_rfl) rfl rfl rfl rfl hW' hk⟩
theorem Z9c : Rows.ParseNestsSaid :=
 OpenClaim.holds_of_cond 5 Tryz.f5 rfl rfl rfl rfl rfl rfl rfl ⟨rfl, rfl, rfl, rfl, rfl⟩ rfl rfl rfl rfl rfl (by kernel_rfl) Tryz.func5 (by kernel_rfl)
  (of_decide_eq_true (by kernel_rfl)) (by unfold Func.isWrapper; first | (rw [if_pos (by decide +kernel)]; kernel_rfl) | (rw [if_neg (by decide +kernel)]; exact ⟨rfl, rfl⟩))
  (fun os started H enc _ F => by rw [OpenClaim.pre_eq_preRow]; exact Z8h os started H enc F)
theorem Z8K (f : FuncId) (fn : Func) (hf : Tryz.pinned.checked.prog.funcNamed "cadastre/cadastrelaw10.ParseNests" = some f) (hfn : Tryz.pinned.checked.prog.funcs[f]? = some fn) :
  true = Tryz.pinned.checked.prog.looks [] ∧ ∀ (j : Nat) t, fn.params[j]? = some t → Tryz.pinned.checked.prog.wantsStandIn t = false := by
 obtain rfl : f = 5 := Option.some.inj ((show Tryz.prog.funcNamed "cadastre/cadastrelaw10.ParseNests" = some 5 by kernel_rfl).symm.trans hf) |>.symm
 obtain rfl : fn = Tryz.f5 := (Option.some.inj (Tryz.func5.symm.trans hfn)).symm
 refine ⟨by kernel_rfl, fun j t ht => ?_⟩
 have hp : Tryz.f5.params = #[Z2h, Z2h] := by kernel_rfl
 rw [hp] at ht
 obtain rfl : t = Z2h := by simpa using Array.mem_of_getElem? ht
 exact (show Tryz.prog.wantsStandIn Z2h = false by kernel_rfl)
theorem parseNests_card : Rows.ParseNestsCardSaid :=
 Claim7.holds_tied_plain_at .later [] _ _ _ _ Z9c (fun _ h => by cases h) (by kernel_rfl) (fun _ h => by cases h) parseNests_row_tie rfl ⟨rfl, rfl⟩ (by kernel_rfl) rfl Z8K (by kernel_rfl)
#print axioms parseNests_card
end Go.Proofs.YtbedigkncjbggaaGreatDoor
