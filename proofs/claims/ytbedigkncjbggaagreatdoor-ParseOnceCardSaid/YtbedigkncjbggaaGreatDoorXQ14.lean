/- An expression wherever it stands. No condition. -/
import Derived.Test.YtbedigkncjbggaaGreatDoorXQ13
import Derived.Test.YtbedigkncjbggaaGreatDoorXQ2
import Derived.Test.YtbedigkncjbggaaGreatDoorRows
import Derived.Deep.DeepHandedRow
import Derived.Deep.DeepWitnessRowRef
import Derived.Lib.LaidCaseMet
import Derived.Lib.LaidIn
import Derived.PinnedBridge
import Derived.ProofKit
import Derived.Test.YtbedigkncjbggaaGreatDoorXG1
import Derived.Stop.LaidErr
import Derived.Lib.LaidTab
import Derived.Lib.SmallJoins
import Derived.Shelf.Vars
import Derived.JoinedCond
import Derived.ChangeMaps5
import Derived.Test.YtbedigkncjbggaaGreatDoorCards
import Derived.Test.YtbedigkncjbggaaGreatDoorTie
set_option maxRecDepth 20000
namespace Go.Proofs.YtbedigkncjbggaaGreatDoor
open Go Go.Vc
open Go.Pz
theorem Zes {ts : List T3} (h : (readT ts).2 ≠ 0) : (readT ts).1 = st0 := by
  unfold readT at h ⊢
  split
  · rfl
  · rename_i s hs
    rw [hs] at h
    dsimp only at h ⊢
    split
    · rfl
    · rename_i hd; rw [if_neg hd] at h; exact absurd rfl h
theorem Zgg {l : List UInt8} (h : (prS l).2 ≠ 0) : (prS l).1 = st0 := by
 by_cases he : (lexL l).2 = 0
 · rw [Z6Q he] at h ⊢; exact Zes h
 · rw [ZcS he]
theorem Z97 (l : List UInt8) : SmS (prS l).1 ∧ ∀ x ∈ exsOf (prS l).1, ect x ≤ 4096 := by
  by_cases h : (prS l).2 = 0
  · have he := Z4f h
    rw [Z6Q he] at h ⊢
    obtain ⟨s, r, h1, _, _, h4⟩ := Zfp h
    rw [h4]
    refine ⟨ZaF h1, fun x hx => ?_⟩
    have := Zci (Z2w _) (Z9M _) (Nat.le_refl _) h1 x hx
    have := Zbq l
    omega
  · rw [Zgg h]
    refine ⟨⟨Nat.zero_le _, (fun x hx => by cases hx), Nat.zero_le _, Nat.zero_le _, (fun x hx => by cases hx), Nat.zero_le _, Nat.zero_le _, Nat.zero_le _, Nat.zero_le _, Nat.zero_le _, Nat.zero_le _⟩, fun x hx => by simp [exsOf, st0] at hx⟩
theorem Z6W (a b : ByteArray) : a ++ b = bl (a.data.toList ++ b.data.toList) := by
 apply ByteArray.ext
 apply Array.ext'
 simp
theorem c_PL (N : Nat) (l : List UInt8) : CallF Tryz.prog Z33 [NH N, GF, AF] [.is (.string (bl l))] (.tup2 (.rep (StR N (prS l).1)) (.is (.int .i64 (prS l).2))) := c_PF N (bl l)
theorem Zfa {ps : List (Cel itE)} {l : List Itm} (h : ∃ w, CelF itE ps w) (hm : ps.map Cel.x = l) (hi : 0 < ps.length) : (ps[0].cs)[0]? = some (.bool (l.headD ⟨false, ex0⟩).all) := by
 have hl : 0 < l.length := by rw [← hm, List.length_map]; exact hi
 rw [ZcL h hm hi hl]
 cases l with
 | nil => cases hl
 | cons a r => rfl
theorem ZfB {ps : List (Cel rwE)} {l : List (List Ex)} (h : ∃ w, CelF rwE ps w) (hm : ps.map Cel.x = l) : ∃ a cap, ∀ hi : 0 < ps.length, (ps[0]'hi).cs = [.slice a (l.headD []).length cap] := by
  by_cases hi : 0 < ps.length
  · have hl : 0 < l.length := by rw [← hm, List.length_map]; exact hi
    obtain ⟨a, cap, e⟩ := Zg5 h hm hi hl
    refine ⟨a, cap, fun _ => ?_⟩
    rw [e]
    cases l with
    | nil => cases hl
    | cons a r => rfl
  · exact ⟨none, 0, fun h => absurd h hi⟩
set_option maxHeartbeats 2000000 in
theorem Z8g (s : ByteArray) (hsz : s.data.toList.length ≤ 140737488351232) : CallF Tryz.prog Z8d [NH 0, GF, AF] [.is (.string s)] (.is (.bool true)) :=
CallF.of (fn := Tryz.f6) Tryz.func6 (n := 138) rfl rfl rfl (fun _ _ => by kernel_rfl) fun E W => by
  have hP1 := c_PL 0 (tDel ++ 32 :: s.data.toList)
  have hs1 := Z97 (tDel ++ 32 :: s.data.toList)
  obtain ⟨p1, hp1⟩ : ∃ p, p = prS (tDel ++ 32 :: s.data.toList) := ⟨_, rfl⟩
  rw [← hp1] at hP1 hs1
  have hP2 := c_PL 0 (tSel ++ 32 :: 40 :: (s.data.toList ++ 41 :: tFrm))
  have hs2 := Z97 (tSel ++ 32 :: 40 :: (s.data.toList ++ 41 :: tFrm))
  obtain ⟨p2, hp2⟩ : ∃ p, p = prS (tSel ++ 32 :: 40 :: (s.data.toList ++ 41 :: tFrm)) := ⟨_, rfl⟩
  rw [← hp2] at hP2 hs2
  have hP3 := c_PL 0 (tIns ++ 32 :: 40 :: (s.data.toList ++ [41]))
  have hs3 := Z97 (tIns ++ 32 :: 40 :: (s.data.toList ++ [41]))
  obtain ⟨p3, hp3⟩ : ∃ p, p = prS (tIns ++ 32 :: 40 :: (s.data.toList ++ [41])) := ⟨_, rfl⟩
  rw [← hp3] at hP3 hs3
  have hP4 := c_PL 0 (tUpd ++ 32 :: s.data.toList)
  have hs4 := Z97 (tUpd ++ 32 :: s.data.toList)
  obtain ⟨p4, hp4⟩ : ∃ p, p = prS (tUpd ++ 32 :: s.data.toList) := ⟨_, rfl⟩
  rw [← hp4] at hP4 hs4
  repeat apply Sq
  apply Pn
  refine Jt (Z2 rfl) rfl ?_
  apply Ni
  repeat first | apply Nx | apply Nb
  refine Sl [0] (.cons rfl .nil) ?_
  repeat apply Sq
  apply Pn
  refine Jt (Z2h rfl Zaq (fun F hF => by repeat (first | (rcases Mc.1 hF with rfl | hF; · (repeat first | exact Mh | apply Mt)) | (cases hF; done))) .nil) rfl ?_
  refine Jt (Z5B rfl) rfl ?_
  apply Ni
  repeat first | apply Nx | apply Nb
  refine Sl [0, 12] (.cons rfl (.cons rfl .nil)) ?_
  repeat apply Sq
  refine Cd rfl (fun ht12 => ?_) (fun ht12 => ?_)
  ·
    try simp only [dT, dF] at ht12
    repeat apply Sq
    apply Pn
    refine Jt (Z2 rfl) rfl ?_
    apply Ni
    repeat first | apply Nx | apply Nb
    refine Sl [2] (.cons rfl .nil) ?_
    repeat apply Sq
    apply Rt
    repeat first | apply Rp | apply Rb
    exact JX.ret1is rfl rfl (by exact absurd ht12 (by decide))
  ·
    try simp only [dT, dF] at ht12
    apply Sk
    repeat first | apply Nx | apply Nb
    repeat apply Sq
    apply Pn
    refine Jt (Z0 rfl) rfl ?_
    refine Jt (Z4z (u := bl ((tDel ++ 32 :: s.data.toList))) rfl rfl (by have h := Z1o s; exact Nat.le_trans (Nat.add_le_add_right (show _ ≤ 100 by decide) _) (by omega)) (by rw [Z6W]; rfl)) rfl ?_
    refine Jt (Z2h rfl hP1 (fun F hF => by repeat (first | (rcases Mc.1 hF with rfl | hF; · (repeat first | exact Mh | apply Mt)) | (cases hF; done))) (.one rfl .nil)) rfl ?_
    refine Jt (Z0 rfl) rfl ?_
    refine Jt (Z1F rfl) rfl ?_
    refine Jt (Z1G rfl) rfl ?_
    refine JO.alloc ZU rfl fun b3 => ?_
    refine JO.m (Z3 rfl rfl (by repeat first | exact .here | apply Ut) (by exact Z18 rfl rfl) (by exact Z22) Zk) (by rfl) ?_
    refine Jt (Z2 rfl) rfl ?_
    apply Ni
    repeat first | apply Nx | apply Nb
    refine Sl [0, 3, 4] (.cons rfl (.cons rfl (.cons rfl .nil))) ?_
    repeat apply Sq
    apply Pn
    refine Jt (Z0 rfl) rfl ?_
    refine Jt (Z4z (u := bl (tSel ++ 32 :: 40 :: s.data.toList)) rfl rfl (by have h := Z1o s; exact Nat.le_trans (Nat.add_le_add_right (show _ ≤ 100 by decide) _) (by omega)) (by rw [Z6W]; rfl)) rfl ?_
    refine Jt (Z4z (u := bl ((tSel ++ 32 :: 40 :: (s.data.toList ++ 41 :: tFrm)))) rfl rfl (by rw [Z6P]; exact Nat.le_trans (Nat.add_le_add (show _ ≤ s.data.toList.length + 100 from by rw [List.length_append, show (32 :: 40 :: s.data.toList).length = s.data.toList.length + 2 from rfl]; have : (tSel : List UInt8).length ≤ 50 := (by decide); omega) (show _ ≤ 100 by decide)) (by omega)) (by rw [Z6W]; rfl)) rfl ?_
    refine Jt (Z2h rfl hP2 (fun F hF => by repeat (first | (rcases Mc.1 hF with rfl | hF; · (repeat first | exact Mh | apply Mt)) | (cases hF; done))) (.one rfl .nil)) rfl ?_
    refine Jt (Z0 rfl) rfl ?_
    refine Jt (Z1F rfl) rfl ?_
    refine Jt (Z1G rfl) rfl ?_
    refine JO.alloc ZU rfl fun b5 => ?_
    refine JO.m (Z3 rfl rfl (by repeat first | exact .here | apply Ut) (by exact Z18 rfl rfl) (by exact Z22) Zk) (by rfl) ?_
    refine Jt (Z2 rfl) rfl ?_
    apply Ni
    repeat first | apply Nx | apply Nb
    refine Sl [0, 3, 4, 5, 6] (.cons rfl (.cons rfl (.cons rfl (.cons rfl (.cons rfl .nil))))) ?_
    repeat apply Sq
    apply Pn
    refine Jt (Z0 rfl) rfl ?_
    refine Jt (Z4z (u := bl (tIns ++ 32 :: 40 :: s.data.toList)) rfl rfl (by have h := Z1o s; exact Nat.le_trans (Nat.add_le_add_right (show _ ≤ 100 by decide) _) (by omega)) (by rw [Z6W]; rfl)) rfl ?_
    refine Jt (Z4z (u := bl ((tIns ++ 32 :: 40 :: (s.data.toList ++ [41])))) rfl rfl (by rw [Z6P]; exact Nat.le_trans (Nat.add_le_add (show _ ≤ s.data.toList.length + 100 from by rw [List.length_append, show (32 :: 40 :: s.data.toList).length = s.data.toList.length + 2 from rfl]; have : (tIns : List UInt8).length ≤ 50 := (by decide); omega) (show _ ≤ 100 by decide)) (by omega)) (by rw [Z6W]; rfl)) rfl ?_
    refine Jt (Z2h rfl hP3 (fun F hF => by repeat (first | (rcases Mc.1 hF with rfl | hF; · (repeat first | exact Mh | apply Mt)) | (cases hF; done))) (.one rfl .nil)) rfl ?_
    refine Jt (Z0 rfl) rfl ?_
    refine Jt (Z1F rfl) rfl ?_
    refine Jt (Z1G rfl) rfl ?_
    refine JO.alloc ZU rfl fun b7 => ?_
    refine JO.m (Z3 rfl rfl (by repeat first | exact .here | apply Ut) (by exact Z18 rfl rfl) (by exact Z22) Zk) (by rfl) ?_
    refine Jt (Z2 rfl) rfl ?_
    apply Ni
    repeat first | apply Nx | apply Nb
    refine Sl [0, 3, 4, 5, 6, 7, 8] (.cons rfl (.cons rfl (.cons rfl (.cons rfl (.cons rfl (.cons rfl (.cons rfl .nil))))))) ?_
    repeat apply Sq
    apply Pn
    refine Jt (Z0 rfl) rfl ?_
    refine Jt (Z4z (u := bl ((tUpd ++ 32 :: s.data.toList))) rfl rfl (by have h := Z1o s; exact Nat.le_trans (Nat.add_le_add_right (show _ ≤ 100 by decide) _) (by omega)) (by rw [Z6W]; rfl)) rfl ?_
    refine Jt (Z2h rfl hP4 (fun F hF => by repeat (first | (rcases Mc.1 hF with rfl | hF; · (repeat first | exact Mh | apply Mt)) | (cases hF; done))) (.one rfl .nil)) rfl ?_
    refine Jt (Z0 rfl) rfl ?_
    refine Jt (Z1F rfl) rfl ?_
    refine Jt (Z1G rfl) rfl ?_
    refine JO.alloc ZU rfl fun b9 => ?_
    refine JO.m (Z3 rfl rfl (by repeat first | exact .here | apply Ut) (by exact Z18 rfl rfl) (by exact Z22) Zk) (by rfl) ?_
    refine Jt (Z2 rfl) rfl ?_
    apply Ni
    repeat first | apply Nx | apply Nb
    refine Sl [3, 4, 5, 6, 7, 8, 9, 10] (.cons rfl (.cons rfl (.cons rfl (.cons rfl (.cons rfl (.cons rfl (.cons rfl (.cons rfl .nil)))))))) ?_
    refine J.front b3 (by repeat (first | exact .here | apply Front.there)) ?_
    refine J.openOwnSt fun vc vn vr vi vf vw vg vo vs h1c => ?_
    refine J.front b5 (by repeat (first | exact .here | apply Front.there)) ?_
    refine J.openOwnSt fun vcz vnz vrz viz vfz vwz vgz voz vsz h1cz => ?_
    refine J.front b7 (by repeat (first | exact .here | apply Front.there)) ?_
    refine J.openOwnSt fun vcy vny vry viy vfy vwy vgy voy vsy h1cy => ?_
    refine J.front b9 (by repeat (first | exact .here | apply Front.there)) ?_
    refine J.openOwnSt fun vcx vnx vrx vix vfx vwx vgx vox vsx h1cx => ?_
    refine J.shapeE (xs := p1.1.where_) (v := vw) (by repeat first | exact Mh | apply Mt) (fun pw aw lw cw bw ow_ hpw hvw hlw haw => ?_)
    refine J.shapeE (xs := p2.1.items) (v := viz) (by repeat first | exact Mh | apply Mt) (fun pi ai li ci bi oi_ hpi hvi hli hai => ?_)
    refine J.shapeE (xs := p2.1.from_) (v := vfz) (by repeat first | exact Mh | apply Mt) (fun pf af lf cf bf of_ hpf hvf hlf haf => ?_)
    refine J.shapeE (xs := p3.1.rows) (v := vry) (by repeat first | exact Mh | apply Mt) (fun pr ar lr cr br or_ hpr hvr hlr har => ?_)
    refine J.shapeE (xs := p4.1.where_) (v := vwx) (by repeat first | exact Mh | apply Mt) (fun pu au lu cu bu ou_ hpu hvu hlu hau => ?_)
    refine J.shapeX (xs := p4.1.sets) (v := vsx) (by repeat first | exact Mh | apply Mt) (fun px ax lx cx bx ox_ hpx hvx hlx hax => ?_)
    refine J.pureF (F := CelF itE pi) (by repeat first | exact Mh | apply Mt) (fun pui => ?_)
    refine J.pureF (F := CelF rwE pr) (by repeat first | exact Mh | apply Mt) (fun pur => ?_)
    obtain ⟨ar0, cr0, hr0⟩ := ZfB pur hpr
    subst hvw hvi hvf hvr hvu hvx
    have nw : lw = p1.1.where_.length := by rw [← hlw, ← hpw, List.length_map]
    have ni : li = p2.1.items.length := by rw [← hli, ← hpi, List.length_map]
    have nf : lf = p2.1.from_.length := by rw [← hlf, ← hpf, List.length_map]
    have nr : lr = p3.1.rows.length := by rw [← hlr, ← hpr, List.length_map]
    have nu : lu = p4.1.where_.length := by rw [← hlu, ← hpu, List.length_map]
    have nx : lx = p4.1.sets.length := by rw [← hlx, ← hpx, List.length_map]
    repeat apply Sq
    refine J.reg0 hmx (by kernel_rfl) (by kernel_rfl) ?_
    refine Rq (Z0 rfl) ?_
    refine Rq (Z1C rfl rfl) ?_
    refine Rq (Z0 rfl) ?_
    refine Rg rfl rfl rfl (fun hg => Z0 (.inl rfl)) ?_
    refine Rg rfl rfl rfl (fun hg => Z1C (.inr ⟨_, rfl, id⟩) (.inl rfl)) ?_
    refine Rq (Z10 rfl rfl rfl id) ?_
    refine Rq (Z0 rfl) ?_
    refine Rg rfl rfl rfl (fun hg => Z0 (.inl rfl)) ?_
    refine Rg rfl rfl rfl (fun hg => Z1C (.inr ⟨_, rfl, id⟩) (.inl rfl)) ?_
    refine Rq (Z10 rfl rfl rfl id) ?_
    refine Rq (Z0 rfl) ?_
    refine Rg rfl rfl rfl (fun hg => Z0 (.inl rfl)) ?_
    refine Rg rfl rfl rfl (fun hg => Z1C (.inr ⟨_, rfl, id⟩) (.inl rfl)) ?_
    refine Rq (Z10 rfl rfl rfl id) ?_
    refine Rq (Z0 rfl) ?_
    refine Rg rfl rfl rfl (fun hg => Z1 Z1s (.inl rfl)) ?_
    refine Rg rfl rfl rfl (fun hg => Z7 Zv (.inr ⟨_, rfl, id⟩) rfl) ?_
    refine Rg rfl rfl rfl (fun hg => ZG ZC (.inr ⟨_, rfl, id⟩)) ?_
    refine Rg rfl rfl rfl (fun hg => Z1C (.inr ⟨_, rfl, id⟩) (.inl rfl)) ?_
    refine Rq (Z10 rfl rfl rfl id) ?_
    refine Rq (Z0 rfl) ?_
    refine Rg rfl rfl rfl (fun hg => Z1 Z21 (.inl rfl)) ?_
    refine Rg rfl rfl rfl (fun hg => Z7 Z2f (.inr ⟨_, rfl, id⟩) rfl) ?_
    refine Rg rfl rfl rfl (fun hg => ZG Z2N (.inr ⟨_, rfl, id⟩)) ?_
    refine Rg rfl rfl rfl (fun hg => Z1C (.inr ⟨_, rfl, id⟩) (.inl rfl)) ?_
    refine Rq (Z10 rfl rfl rfl id) ?_
    refine Rq (Z0 rfl) ?_
    refine Rg rfl rfl rfl (fun hg => Z1 Z2q (.inl rfl)) ?_
    refine Rg rfl rfl rfl (fun hg => Z7 Z2A (.inr ⟨_, rfl, id⟩) rfl) ?_
    refine Rg rfl rfl rfl (fun hg => ZG Z23 (.inr ⟨_, rfl, id⟩)) ?_
    refine Rg rfl rfl rfl (fun hg => Z1C (.inr ⟨_, rfl, id⟩) (.inl rfl)) ?_
    refine Rq (Z10 rfl rfl rfl id) ?_
    refine Rq (Z0 rfl) ?_
    refine Rg rfl rfl rfl (fun hg => Z1 Z2q (.inl rfl)) ?_
    refine Rg rfl rfl rfl (fun hg => Z7 Z2A (.inr ⟨_, rfl, id⟩) rfl) ?_
    refine Rg rfl rfl rfl (fun hg => Zj Z2B (.inr ⟨_, rfl, id⟩) (har (by first | omega | (simp at hg; omega))) (.inl rfl) (by omega) (by first | omega | (simp at hg; omega))) ?_
    refine Rg rfl rfl rfl (fun hg => Z1n (sz := 1) (i := 0) (j := 0) (enc := @Cel.cs _ rwE) (y := pr[0]'(by first | omega | (simp at hg; omega))) (u := .slice ar0 (p3.1.rows.headD []).length cr0) Zv (.inr ⟨_, rfl, id⟩) (by repeat first | exact Mh | apply Mt) (har (by first | omega | (simp at hg; omega))) (List.getElem?_eq_getElem _) rfl (by rw [hr0]; rfl)) ?_
    refine Rg rfl rfl rfl (fun hg => ZG ZC (.inr ⟨_, rfl, id⟩)) ?_
    refine Rg rfl rfl rfl (fun hg => Z1C (.inr ⟨_, rfl, id⟩) (.inl rfl)) ?_
    refine Rq (Z10 rfl rfl rfl id) ?_
    refine Rq (Z0 rfl) ?_
    refine Rg rfl rfl rfl (fun hg => Z1 Z2H (.inl rfl)) ?_
    refine Rg rfl rfl rfl (fun hg => Z7 Zv (.inr ⟨_, rfl, id⟩) rfl) ?_
    refine Rg rfl rfl rfl (fun hg => ZG ZC (.inr ⟨_, rfl, id⟩)) ?_
    refine Rg rfl rfl rfl (fun hg => Z1C (.inr ⟨_, rfl, id⟩) (.inl rfl)) ?_
    refine Rq (Z10 rfl rfl rfl id) ?_
    refine Rq (Z0 rfl) ?_
    refine Rg rfl rfl rfl (fun hg => Z1 Z1s (.inl rfl)) ?_
    refine Rg rfl rfl rfl (fun hg => Z7 Zv (.inr ⟨_, rfl, id⟩) rfl) ?_
    refine Rg rfl rfl rfl (fun hg => ZG ZC (.inr ⟨_, rfl, id⟩)) ?_
    refine Rg rfl rfl rfl (fun hg => Z1C (.inr ⟨_, rfl, id⟩) (.inl rfl)) ?_
    refine Rq (Z10 rfl rfl rfl id) ?_
    refine Rq (Z0 rfl) ?_
    refine Rg rfl rfl rfl (fun hg => Z1 Z21 (.inl rfl)) ?_
    refine Rg rfl rfl rfl (fun hg => Z7 Z2f (.inr ⟨_, rfl, id⟩) rfl) ?_
    refine Rg rfl rfl rfl (fun hg => Zj Z3t (.inr ⟨_, rfl, id⟩) (hai (by first | omega | (simp at hg; omega))) (.inl rfl) (by omega) (by first | omega | (simp at hg; omega))) ?_
    refine Rg rfl rfl rfl (fun hg => Z1 Z7w (.inr ⟨_, rfl, id⟩)) ?_
    refine Rg rfl rfl rfl (fun hg => Z1n (sz := 9) (i := 0) (j := 0) (enc := @Cel.cs _ itE) (y := pi[0]'(by first | omega | (simp at hg; omega))) (u := .bool (p2.1.items.headD ⟨false, ex0⟩).all) ZcP (.inr ⟨_, rfl, id⟩) (by repeat first | exact Mh | apply Mt) (hai (by first | omega | (simp at hg; omega))) (List.getElem?_eq_getElem _) rfl (Zfa pui hpi (by first | omega | (simp at hg; omega)))) ?_
    refine Rq (Z10 rfl rfl rfl id) ?_
    refine Rq (Z0 rfl) ?_
    refine Rg rfl rfl rfl (fun hg => Z1 Z2r (.inl rfl)) ?_
    refine Rg rfl rfl rfl (fun hg => Z7 Z2X (.inr ⟨_, rfl, id⟩) rfl) ?_
    refine Rg rfl rfl rfl (fun hg => ZG Z2U (.inr ⟨_, rfl, id⟩)) ?_
    refine Rg rfl rfl rfl (fun hg => Z1C (.inr ⟨_, rfl, id⟩) (.inl rfl)) ?_
    refine Rq (Z10 rfl rfl rfl id) ?_
    apply Rn
    refine FinS.nil0 ?_
    repeat first | apply Nx | apply Nb
    refine Sl [3, 5, 7, 9, 103] (.cons rfl (.cons rfl (.cons rfl (.cons rfl (.cons rfl .nil))))) ?_
    repeat apply Sq
    refine Cd rfl (fun ht103 => ?_) (fun ht103 => ?_)
    ·
      try simp only [dT, dF] at ht103
      repeat apply Sq
      apply Pn
      refine Jt (Z2 rfl) rfl ?_
      apply Ni
      repeat first | apply Nx | apply Nb
      refine Sl [2] (.cons rfl .nil) ?_
      repeat apply Sq
      apply Rt
      repeat first | apply Rp | apply Rb
      exact JX.ret1is rfl rfl (rfl)
    ·
      try simp only [dT, dF] at ht103
      apply Sk
      repeat first | apply Nx | apply Nb
      simp only [Bool.or_eq_false_iff, bne_eq_false_iff_eq] at ht103
      have g1 : p1.2 = 0 := by simp_all
      have g2 : p2.2 = 0 := by simp_all
      have g3 : p3.2 = 0 := by simp_all
      have g4 : p4.2 = 0 := by simp_all
      obtain ⟨x, q1, q2, q3, q4⟩ := Zfi (s := s.data.toList) (by rw [← hp1]; exact g1) (by rw [← hp2]; exact g2) (by rw [← hp3]; exact g3) (by rw [← hp4]; exact g4)
      rw [← hp1] at q1
      rw [← hp2] at q2
      rw [← hp3] at q3
      rw [← hp4] at q4
      rw [q1] at hpw nw
      rw [q2] at hpi ni
      rw [q3] at hpr nr
      rw [q4] at hpx nx
      have lw1 : lw = 1 := nw
      have li1 : li = 1 := ni
      have lr1 : lr = 1 := nr
      have lx1 : lx = 1 := nx
      have hec : ect x ≤ 4096 := hs1.2 x (by unfold exsOf; rw [q1]; simp)
      have hSX : SameX x := Z5J 4096 x hec hec
      refine J.fact (KidsR [x] aw lw) (fun X w hF _ w' hk => by rw [← hpw]; exact Cel.kids (hF (RowG Cel.cs 8 pw aw lw) (by repeat first | exact Mh | apply Mt) w' hk) (hF (CelF exE pw) (by repeat first | exact Mh | apply Mt) w' hk)) ?_
      refine J.fact (KidsR [x] ax lx) (fun X w hF _ w' hk => by rw [← hpx]; exact Cel.kids (hF (RowG Cel.cs 8 px ax lx) (by repeat first | exact Mh | apply Mt) w' hk) (hF (CelF exE px) (by repeat first | exact Mh | apply Mt) w' hk)) ?_
      obtain ⟨u1, q0, hq1, hq2, hq3⟩ := ZdZ (pi[0]'(by omega))
      refine J.fact (CelR q0) (fun X w hF _ w' hk => hq3 pi w' (List.getElem_mem _) (hF (CelF itE pi) (by repeat first | exact Mh | apply Mt) w' hk)) ?_
      have hqx : q0.x = x := by rw [hq2]; have h0 := congrArg (fun l => l[0]?) hpi; simp only [List.getElem?_map] at h0; rw [List.getElem?_eq_getElem (by omega)] at h0; simpa using congrArg (Option.map Itm.ex) h0
      refine J.fact (ExR x (.agg q0.cs.toArray)) (fun X w hF _ w' hk => by rw [← hqx]; exact hF (CelR q0) (by repeat first | exact Mh | apply Mt) w' hk) ?_
      have hrx : (pr[0]'(by omega)).x = [x] := by have h0 := congrArg (fun l => l[0]?) hpr; simp only [List.getElem?_map] at h0; rw [List.getElem?_eq_getElem (by omega)] at h0; simpa using h0
      refine J.fact (ExsR [x] (hdv (pr[0]'(by omega)).cs)) (fun X w hF _ w' hk => by rw [← hrx]; exact Zce (List.getElem_mem _) (hF (CelF rwE pr) (by repeat first | exact Mh | apply Mt) w' hk)) ?_
      refine J.shapeK (xs := [x]) (v := hdv (pr[0]'(by omega)).cs) (by repeat first | exact Mh | apply Mt) (fun ay ly cy by_ oy hvy hly hay => ?_)
      have ly1 : ly = 1 := hly.symm
      repeat apply Sq
      refine J.reg0 hmx (by kernel_rfl) (by kernel_rfl) ?_
      refine Rq (Z1 Z1s rfl) ?_
      refine Rq (Z7 Zv rfl rfl) ?_
      refine Rq (Zj Z1f rfl (haw (by omega)) rfl (by omega) (by omega)) ?_
      refine Rq (Z27 (i := 0) (kid := x) Za rfl (by repeat first | exact Mh | apply Mt) (haw (by omega)) rfl rfl) ?_
      refine Rq (Z1 Z21 rfl) ?_
      refine Rq (Z7 Z2f rfl rfl) ?_
      refine Rq (Zj Z3t rfl (hai (by omega)) rfl (by omega) (by omega)) ?_
      refine Rq (Z1 Z7o rfl) ?_
      refine Rq (ZdH (sz := 9) (i := 0) (j := 1) (n := 8) (enc := @Cel.cs _ itE) (y := pi[0]'(by omega)) (cs := q0.cs) (by rw [q0.h]; exact Za) rfl (by repeat first | exact Mh | apply Mt) (hai (by omega)) (List.getElem?_eq_getElem _) rfl (by rw [hq1]; show (List.drop 1 (u1 :: q0.cs)).take 8 = q0.cs; rw [List.drop_one, List.tail_cons, List.take_of_length_le (by rw [q0.h]; exact Nat.le_refl _)])) ?_
      refine Rq (ZW rfl hSX (.one rfl (.sub rfl (Sub.fact (by repeat first | exact Mh | apply Mt)) .nil))) ?_
      refine Rq (Z0 rfl) ?_
      refine Rg rfl rfl rfl (fun hg => Z1 Z1s (.inl rfl)) ?_
      refine Rg rfl rfl rfl (fun hg => Z7 Zv (.inr ⟨_, rfl, id⟩) rfl) ?_
      refine Rg rfl rfl rfl (fun hg => Zj Z1f (.inr ⟨_, rfl, id⟩) (haw (by omega)) (.inl rfl) (by omega) (by omega)) ?_
      refine Rg rfl rfl rfl (fun hg => Z27 (i := 0) (kid := x) Za (.inr ⟨_, rfl, id⟩) (by repeat first | exact Mh | apply Mt) (haw (by omega)) rfl rfl) ?_
      refine Rg rfl rfl rfl (fun hg => Z1 Z2q (.inl rfl)) ?_
      refine Rg rfl rfl rfl (fun hg => Z7 Z2A (.inr ⟨_, rfl, id⟩) rfl) ?_
      refine Rg rfl rfl rfl (fun hg => Zj Z2B (.inr ⟨_, rfl, id⟩) (har (by omega)) (.inl rfl) (by omega) (by omega)) ?_
      refine Rg rfl rfl rfl (fun hg => Z1n (sz := 1) (i := 0) (j := 0) (enc := @Cel.cs _ rwE) (y := pr[0]'(by omega)) (u := .slice ay ly cy) Zv (.inr ⟨_, rfl, id⟩) (by repeat first | exact Mh | apply Mt) (har (by omega)) (List.getElem?_eq_getElem _) rfl (by rw [ZfU, hvy]; rfl)) ?_
      refine Rg rfl rfl rfl (fun hg => Zj Z1f (.inr ⟨_, rfl, id⟩) (hay (by omega)) (.inl rfl) (by omega) (by omega)) ?_
      refine Rg rfl rfl rfl (fun hg => Z27 (i := 0) (kid := x) Za (.inr ⟨_, rfl, id⟩) (by repeat first | exact Mh | apply Mt) (hay (by omega)) rfl rfl) ?_
      refine Rg rfl rfl rfl (fun hg => ZW (.inl rfl) hSX (.one (.inr ⟨_, rfl, id⟩) (.one (.inr ⟨_, rfl, id⟩) .nil))) ?_
      refine Rq (ZK rfl rfl rfl id) ?_
      refine Rq (Z0 rfl) ?_
      refine Rg rfl rfl rfl (fun hg => Z1 Z1s (.inl rfl)) ?_
      refine Rg rfl rfl rfl (fun hg => Z7 Zv (.inr ⟨_, rfl, id⟩) rfl) ?_
      refine Rg rfl rfl rfl (fun hg => Zj Z1f (.inr ⟨_, rfl, id⟩) (haw (by omega)) (.inl rfl) (by omega) (by omega)) ?_
      refine Rg rfl rfl rfl (fun hg => Z27 (i := 0) (kid := x) Za (.inr ⟨_, rfl, id⟩) (by repeat first | exact Mh | apply Mt) (haw (by omega)) rfl rfl) ?_
      refine Rg rfl rfl rfl (fun hg => Z1 Z2H (.inl rfl)) ?_
      refine Rg rfl rfl rfl (fun hg => Z7 Zv (.inr ⟨_, rfl, id⟩) rfl) ?_
      refine Rg rfl rfl rfl (fun hg => Zj Z1f (.inr ⟨_, rfl, id⟩) (hax (by omega)) (.inl rfl) (by omega) (by omega)) ?_
      refine Rg rfl rfl rfl (fun hg => Z27 (i := 0) (kid := x) Za (.inr ⟨_, rfl, id⟩) (by repeat first | exact Mh | apply Mt) (hax (by omega)) rfl rfl) ?_
      refine Rg rfl rfl rfl (fun hg => ZW (.inl rfl) hSX (.one (.inr ⟨_, rfl, id⟩) (.one (.inr ⟨_, rfl, id⟩) .nil))) ?_
      refine Rq (ZK rfl rfl rfl id) ?_
      refine Rq (Z2 rfl) ?_
      apply Rn
      refine FinS.nil0 ?_
      repeat first | apply Nx | apply Nb
      refine Sl [2] (.cons rfl .nil) ?_
      repeat apply Sq
      apply Rt
      repeat first | apply Rp | apply Rb
      exact JX.ret1is rfl rfl (by simp)
end Go.Proofs.YtbedigkncjbggaaGreatDoor
set_option maxRecDepth 100000
namespace Go.Proofs.YtbedigkncjbggaaGreatDoor
open Go Go.Vc Go.Shelf Go.ChangeShapes Go.WideShapes Go.ChangeAt Go.RowKit
theorem own : ownKnob Tryz.prog.godebug = none := by kernel_rfl
theorem laidOut : laidOutB Tryz.prog = true := by kernel_rfl
def litCells : DataW Unit → Array Value
 | .agg l => (l.map fun | .lit (.int k z) => Value.int k z | _ => undef).toArray
 | _ => #[]
def accCells : Array Value := ((List.range 16).flatMap fun i => [Value.int .u8 (Lib.accLo i), Value.int .u8 (Lib.accHi i)]).toArray
def wsCells : Array Value := ([9, 13, 1, 32, 133, 101, 160, 5760, 5600, 8192, 8202, 1, 8232, 8233, 1, 8239, 8287, 48, 12288, 12288, 1].map fun z => Value.int .u16 z).toArray
noncomputable def laidWorld (os : Os) : World :=
 let N := (World.settled Tryz.prog os).heap.size
 let w0 := World.holding Tryz.prog os ⟨#[.cells Lib.caseCells5 (Z3G.t 208), .cells #[.slice (some ⟨N + 2, 0, none⟩) 7 7, .slice none 0 0, .int .i64 2] 217, .cells wsCells 220], #[], []⟩
 let put (h : Array Obj) (g : Nat) (cs : Array Value) : Array Obj := h.modify g fun
  | .cells _ t frozen => .cells cs t frozen
  | o => o
 let h0 := put w0.heap 0 (litCells Rows.laid_strings_asciiSpace)
 let h3 := put h0 3 #[.slice (some ⟨N, 0, none⟩) 336 336]
 let h4 := put h3 4 #[.pointer (some ⟨N + 1, 0, none⟩)]
 let h5 := put h4 5 (Lib.firstTab.map fun z => Value.int .u8 z).toArray
 let h6 := put h5 6 accCells
 let h2 := put h6 2 (litCells Rows.laid_internal_strconv_uint64pow10)
 let h7 := put h2 7 (litCells Rows.laid_math_bits_deBruijn32tab)
 let h8 := put h7 8 (litCells Rows.laid_math_bits_deBruijn64tab)
 { w0 with heap := h8 }
noncomputable abbrev N0 : Nat := (World.settled Tryz.prog default).heap.size
noncomputable abbrev LW (os : Os) (args : Array Value) : World := ((laidWorld os).forCall (fun _ _ => 0) ⟨#[], args, []⟩).memory
theorem Zel (os : Os) (args : Array Value) : LaidIn Tryz.prog (LW os args) [("unicode/utf8.acceptRanges", Rows.laid_unicode_utf8_acceptRanges)] [6] :=
 LaidIn.of_run [6] 8 (by kernel_rfl) (by kernel_rfl) (by kernel_rfl) (by kernel_rfl)
theorem Zc2 (os : Os) (args : Array Value) : LaidIn Tryz.prog (LW os args) [("unicode/utf8.first", Rows.laid_unicode_utf8_first)] [5] :=
 LaidIn.of_run [5] 8 (by kernel_rfl) (by kernel_rfl) (by kernel_rfl) (by kernel_rfl)
theorem Zcb {P : Program} {ρ : Ren} (L : Lays.n274 P ρ) (t206 : P.underlying (ρ.t 206) = some (.array 3 (ρ.t 21))) (X : CaseExtra P ρ) {w : World} (R : Nat) (t : TypeId) (hgR : ρ.g 13 ≠ R)
    (hvar : w.heap[ρ.g 13]? = some (.cells #[.slice (some ⟨R, 0, none⟩) Lib.caseA.size Lib.caseA.size] (ρ.t 162) (0, 0)))
    (hblk : w.heap[R]? = some (.cells Lib.caseCells5 t (0, 0))) : LaidIn P w [("unicode.CaseRanges", Lib.caseData)] [ρ.g 13, R] := by
  have hT := caseTab_of_block hblk
  have hread := case_slice_reads L t206 X hT caseA_wf (by rw [Lib.caseA_size]; unfold maxLen; omega) 0
  rw [case_rows_data] at hread
  have hv : w.var? P "unicode.CaseRanges" = some #[.slice (some ⟨R, 0, none⟩) Lib.caseA.size Lib.caseA.size] := by simp [World.var?, X.n13, hvar]
  refine LaidIn.one (cs := #[.slice (some ⟨R, 0, none⟩) Lib.caseA.size Lib.caseA.size]) [ρ.g 13, R] X.n13 X.y13 hv hread ?_ ?_ ?_
  · refine List.nodup_append.2 ⟨row_nodup _ _, row_nodup _ _, ?_⟩
    intro a ha b hb e
    obtain ⟨i, _, rfl⟩ := MemPlace.mem_row.1 ha
    obtain ⟨j, _, rfl⟩ := MemPlace.mem_row.1 hb
    simp at e
    exact hgR e.1
  · intro b off hp
    rcases List.mem_append.1 hp with hp | hp
    · obtain ⟨i, hi, e⟩ := MemPlace.mem_row.1 hp
      cases e
      refine ⟨⟨_, _, hvar⟩, fun u v hc => ?_⟩
      obtain rfl : i = 0 := by simp at hi; omega
      rw [Lib.cell_of_heap hvar] at hc
      simp at hc
    · obtain ⟨i, hi, e⟩ := MemPlace.mem_row.1 hp
      cases e
      refine ⟨⟨_, _, hblk⟩, fun u v hc => ?_⟩
      obtain ⟨c0, c1, c2, c3, c4⟩ := hT (i / 5) (by omega)
      have hi5 : 0 + i = 0 + i / 5 * 5 + i % 5 := by omega
      simp only at hc
      rw [hi5] at hc
      have hm : i % 5 < 5 := Nat.mod_lt _ (by omega)
      match hk : i % 5, hm with
      | 0, _ => rw [hk, Nat.add_zero, c0] at hc; cases hc
      | 1, _ => rw [hk, c1] at hc; cases hc
      | 2, _ => rw [hk, c2] at hc; cases hc
      | 3, _ => rw [hk, c3] at hc; cases hc
      | 4, _ => rw [hk, c4] at hc; cases hc
  · intro x hx
    rcases List.mem_append.1 hx with hx | hx
    · obtain ⟨i, _, rfl⟩ := MemPlace.mem_row.1 hx
      exact List.mem_cons_self
    · obtain ⟨i, _, rfl⟩ := MemPlace.mem_row.1 hx
      exact List.mem_cons_of_mem _ List.mem_cons_self
theorem caseX : CaseExtra Tryz.prog Z3G := ⟨by kernel_rfl, by kernel_rfl, by kernel_rfl, by kernel_rfl, by kernel_rfl, by kernel_rfl⟩
theorem Zdl (os : Os) (args : Array Value) : LaidIn Tryz.prog (LW os args) [("unicode.CaseRanges", Rows.laid_unicode_CaseRanges)] [3, N0] := by
 show LaidIn Tryz.prog (LW os args) [("unicode.CaseRanges", Go.Pinned.caseRanges)] [3, N0]
 rw [Pinned.caseRanges_eq]
 exact Zcb { lays158 with } lays158.t206 caseX N0 (Z3G.t 208) (of_decide_eq_true (by kernel_rfl)) (by kernel_rfl) (by kernel_rfl)
theorem Zfg (os : Os) (args : Array Value) : LaidIn Tryz.prog (LW os args) [("unicode.White_Space", Rows.laid_unicode_White_Space)] [4, N0 + 1, N0 + 2] :=
 LaidIn.of_run [4, N0 + 1, N0 + 2] 8 (by kernel_rfl) (by kernel_rfl) (by kernel_rfl) (by kernel_rfl)
theorem Ze3 (os : Os) (args : Array Value) : LaidIn Tryz.prog (LW os args) [("strings.asciiSpace", Rows.laid_strings_asciiSpace)] [0] :=
 LaidIn.of_run [0] 8 (by kernel_rfl) (by kernel_rfl) (by kernel_rfl) (by kernel_rfl)
theorem ZdF (os : Os) (args : Array Value) : laidMet Tryz.prog Rows.parseOnceRow.laid (LW os args) :=
 (((((Zel os args).append (Zfg os args) (by kernel_rfl)).append (Ze3 os args) (by kernel_rfl)).append (Zdl os args) (by kernel_rfl)).append (Zc2 os args) (by kernel_rfl)).met
end Go.Proofs.YtbedigkncjbggaaGreatDoor
set_option maxRecDepth 100000
namespace Go.Proofs.YtbedigkncjbggaaGreatDoor
open Go Go.Vc Go.ChangeShapes Go.WideShapes Go.ChangeAt Go.RowKit
theorem Ze9 {W : World} (h : W.ShapedOpen Tryz.prog) : GF W :=
 cell_of_shapedOpen_int (zero := #[.int .i64 0]) (t := 3) h (of_decide_eq_true (by kernel_rfl)) (by kernel_rfl) rfl (by kernel_rfl) (by kernel_rfl) Tryz.underlying3
theorem ZeF {W : World} {a : Addr} {v : Value} (h : W.cell? a = some v) : ∀ w', Keeps noX W w' → w'.cell? a = some v := fun w' hk => by
  unfold World.cell? at h ⊢
  cases hb : W.heap[a.block]? with
  | none => rw [hb] at h; simp at h
  | some o =>
    rw [hk.get hb (fun h => h)]
    rw [hb] at h
    exact h
theorem Zgy {W : World} (h : GF W) : Pers noX W GF := fun w' hk => by
 obtain ⟨m, hm⟩ := h
 exact ⟨m, ZeF hm w' hk⟩
theorem Zew : Tryz.prog.readableRec ZH = true ∧ ZH < Tryz.prog.types.size := ⟨by kernel_rfl, of_decide_eq_true (by kernel_rfl)⟩
theorem size1 {H : Type} {l : List UInt8} (h : (DataW.weightsEach (H := H) Tryz.prog [ZH] [.lit (.string l)]).all (· ≤ reachBytes) = true) : l.length ≤ 140737488351232 := by
 simp only [DataW.weightsEach, DataW.weights, List.append_nil, List.all_cons, List.all_nil, Bool.and_true, decide_eq_true_eq] at h
 exact h
theorem Zgm {W : World} (h : laidMetH Tryz.prog Rows.parseOnceRow.laid W) : AF W := by
 have h1 : laidMet Tryz.prog Rows.parseOnceRow.laid W := h
 exact Lib.tabIs_of_head (t := 187) (e := 5) (n := 256) (by kernel_rfl : Tryz.prog.globalNamed "strings.asciiSpace" = some 0) (by kernel_rfl) (by kernel_rfl) (by kernel_rfl) (by kernel_rfl) (by kernel_rfl) (laidMet.tail (laidMet.tail h1))
theorem Zgw {W : World} (h : AF W) : Pers noX W AF := fun w' hk =>
 Joins.tab_stays (by kernel_rfl : Tryz.prog.globalNamed "strings.asciiSpace" = some 0) h hk.below (Nat.le_refl _)
end Go.Proofs.YtbedigkncjbggaaGreatDoor
set_option maxRecDepth 100000
namespace Go.Proofs.YtbedigkncjbggaaGreatDoor
open Go Go.Vc Go.ChangeShapes Go.WideShapes Go.ChangeAt Go.RowKit
open Go.ChangeMaps (open_string)
theorem Z9A (os : Os) (args : Array Value) : laidMet Tryz.prog Rows.parseOnceRow.laid (LW os args) := ZdF os args
theorem Z8h (os : Os) {H : Type} (enc : TypeId × Value → H) :
  (OpenSpec.ofChange Rows.parseOnceSpec).preRow enc Tryz.prog Tryz.f6 Rows.parseOnceRow.domain false Rows.parseOnceRow.laid (LW os #[.string ⟨#[]⟩]) #[.string ⟨#[]⟩] := by
 have hw : (DataW.whole enc Tryz.prog (LW os #[.string ⟨#[]⟩]) Tryz.f6.params.toList Rows.parseOnceSpec.vars false (#[.string ⟨#[]⟩] : Array Value).toList 8).map (fun x => (x.1, x.2.1)) = some ([.lit (.string [])], []) := by kernel_rfl
 obtain ⟨⟨x1, x2, x3⟩, hx, hx1⟩ := Option.map_eq_some_iff.1 hw
 simp only [Prod.mk.injEq] at hx1
 obtain ⟨rfl, rfl⟩ := hx1
 exact OpenSpec.preRow_of_cond 8 hx (by kernel_rfl) (fun k hk => by cases hk) (by kernel_rfl) (Z9A os _)
set_option maxHeartbeats 2000000 in
theorem Z8R (os : Os) (started : os.Started) (H : Type) (enc : TypeId × Value → H) (F : Stop.Interp) :
    ReturnsInHanded {} Tryz.checked os 6 .any ((OpenSpec.ofChange Rows.parseOnceSpec).preRow enc Tryz.prog Tryz.f6 Rows.parseOnceRow.domain false Rows.parseOnceRow.laid) (((OpenSpec.ofChange Rows.parseOnceSpec).at F).post enc Tryz.prog Tryz.f6 false true false false) := by
  refine returnsInHanded_of_row (C := Tryz.checked) (s := OpenSpec.ofChange Rows.parseOnceSpec) own started (by kernel_rfl) Tryz.func6
    (witness_row_atRef (enc := enc) (C := Tryz.checked) false (laidWorld os) #[.string ⟨#[]⟩] rfl (by kernel_rfl) (by kernel_rfl) (by kernel_rfl) (Z8h os enc)) ?_
  intro W base args ds gs before hval0 hW _ _ hsz0 hL hsh _
  have hW' := hW
  obtain ⟨p, q, hA0, hV, rfl, hfz, hnd⟩ := hW
  have hA : DataW.TrodAll enc Tryz.prog W 0 (fun _ => true) true [ZH] args.toList ds p := hA0
  have hgf := Zgy (Ze9 hsh)
  have haf := Zgw (Zgm hL)
  obtain ⟨v0, d0, rfl, rfl, h0⟩ := trodAll_one hA
  obtain ⟨rfl, rfl⟩ := trodVars_none hV
  obtain ⟨s, rfl, rfl, rfl, _⟩ := open_string Zo (hval0 0 ZH v0 rfl rfl) h0
  have hsz : (DataW.weightsEach (H := H) Tryz.prog [ZH] [.lit (.string s.data.toList)]).all (· ≤ reachBytes) = true := hsz0
  refine ((Z8g s (by exact size1 hsz)).calls noX W [.string s] (fun _ h => h.elim) (fun F hF => by rcases Mc.1 hF with rfl | hF; exact fun w' _ => Nat.zero_le _; rcases Mc.1 hF with rfl | hF; exact hgf; rcases Mc.1 hF with rfl | hF; exact haf; cases hF) ⟨rfl, trivial⟩).mono fun e W' ⟨v, he, hk, hR⟩ => ?_
  subst he
  have hR' : v = .bool true := hR
  subst hR'
  exact ⟨_, rfl, ZdL (f := Tryz.f6) (s := Rows.parseOnceSpec) (tB := Zgb) laidOut (mem1 Zew) (by kernel_rfl) (by kernel_rfl) rfl rfl rfl rfl hW' hk⟩
theorem Z9I : Rows.ParseOnceSaid :=
 OpenClaim.holds_of_cond 6 Tryz.f6 rfl rfl rfl rfl rfl rfl rfl ⟨rfl, rfl, rfl, rfl, rfl⟩ rfl rfl rfl rfl rfl (by kernel_rfl) Tryz.func6 (by kernel_rfl)
  (of_decide_eq_true (by kernel_rfl)) (by unfold Func.isWrapper; first | (rw [if_pos (by decide +kernel)]; kernel_rfl) | (rw [if_neg (by decide +kernel)]; exact ⟨rfl, rfl⟩))
  (fun os started H enc _ F => by rw [OpenClaim.pre_eq_preRow]; exact Z8R os started H enc F)
theorem Z9j (f : FuncId) (fn : Func) (hf : Tryz.pinned.checked.prog.funcNamed "cadastre/cadastrelaw10.ParseOnce" = some f) (hfn : Tryz.pinned.checked.prog.funcs[f]? = some fn) :
  true = Tryz.pinned.checked.prog.looks [] ∧ ∀ (j : Nat) t, fn.params[j]? = some t → Tryz.pinned.checked.prog.wantsStandIn t = false := by
 obtain rfl : f = 6 := Option.some.inj ((show Tryz.prog.funcNamed "cadastre/cadastrelaw10.ParseOnce" = some 6 by kernel_rfl).symm.trans hf) |>.symm
 obtain rfl : fn = Tryz.f6 := (Option.some.inj (Tryz.func6.symm.trans hfn)).symm
 refine ⟨by kernel_rfl, fun j t ht => ?_⟩
 have hp : Tryz.f6.params = #[ZH] := by kernel_rfl
 rw [hp] at ht
 obtain rfl : t = ZH := by simpa using Array.mem_of_getElem? ht
 exact (show Tryz.prog.wantsStandIn ZH = false by kernel_rfl)
theorem parseOnce_card : Rows.ParseOnceCardSaid :=
 Claim7.holds_tied_plain_at .later [] _ _ _ _ Z9I (fun _ h => by cases h) (by kernel_rfl) (fun _ h => by cases h) parseOnce_row_tie rfl ⟨rfl, rfl⟩ (by kernel_rfl) rfl Z9j (by kernel_rfl)
#print axioms parseOnce_card
end Go.Proofs.YtbedigkncjbggaaGreatDoor
