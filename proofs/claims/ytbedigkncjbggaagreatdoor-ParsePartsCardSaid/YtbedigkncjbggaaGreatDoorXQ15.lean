/- A statement with more about it. No condition. -/
import Derived.Test.YtbedigkncjbggaaGreatDoorXQ14
import Derived.Test.YtbedigkncjbggaaGreatDoorXQ2
import Derived.Test.YtbedigkncjbggaaGreatDoorRows
import Derived.Deep.DeepHandedRow
import Derived.Deep.DeepWitnessRowRef
import Derived.Lib.LaidCaseMet
import Derived.Lib.LaidIn
import Derived.PinnedBridge
import Derived.ProofKit
import Derived.Test.YtbedigkncjbggaaGreatDoorXG1
import Derived.Stop.LaidErr
import Derived.Lib.LaidTab
import Derived.Lib.SmallJoins
import Derived.Shelf.Vars
import Derived.JoinedCond
import Derived.ChangeMaps5
import Derived.Test.YtbedigkncjbggaaGreatDoorCards
import Derived.Test.YtbedigkncjbggaaGreatDoorTie
set_option maxRecDepth 20000
namespace Go.Proofs.YtbedigkncjbggaaGreatDoor
open Go Go.Vc
open Go.Pz
theorem partsAll2 {l : List UInt8} : (prS l).2 = 0 → prS (upL false l) = prS l ∧ (l.length + 3 ≤ 2048 → prS (10 :: (l ++ [9, 32])) = prS l) ∧ (2048 < l.length + 3 → (prS (10 :: (l ++ [9, 32]))).2 = 30)
  ∧ (prS (l ++ [59]) = prS l ∨ (prS (l ++ [59])).2 = 30) ∧ (prS (l ++ [59, 59])).2 = 30 := ZcF
theorem sub32 {b : UInt8} (h : smlB b = true) : IntKind.u8.wrap ((b.toNat : Int) - 32) = ((b - 32 : UInt8).toNat : Int) := by
  unfold smlB at h
  simp only [Bool.and_eq_true, decide_eq_true_eq] at h
  have h1 : (b - 32 : UInt8).toNat = b.toNat - 32 := by
    rw [UInt8.toNat_sub_of_le _ _ (by show (32 : UInt8).toNat ≤ b.toNat; have : (32 : UInt8).toNat = 32 := rfl; omega)]
    rfl
  rw [h1]
  unfold IntKind.wrap
  simp [IntKind.bits, IntKind.signed]
  omega
theorem Zfb {q : Bool} {b : UInt8} (h : ((!q && decide (97 ≤ (b.toNat : Int))) && decide ((b.toNat : Int) ≤ 122)) = true) : smlB b = true := by
 unfold smlB
 rw [Bool.and_assoc, Bool.and_eq_true] at h
 exact h.2
theorem Z8F {s : ByteArray} {i : Nat} {q q' : Bool} {acc : List UInt8} {y : UInt8} {Y : List UInt8} (h : i < s.size) (hq : flipQ q (by_ s i) = q') (hy : upC q' (by_ s i) = y) (hx : acc ++ upL q (dr s i) = Y) : (acc ++ [y]) ++ upL q' (dr s (i + 1)) = Y := by
 rw [← hx, Z2A h, upL, hq, hy]
 simp
set_option maxHeartbeats 2000000 in
theorem Z8s (s : ByteArray) (hsz : s.data.toList.length ≤ 140737488351232) : CallF Tryz.prog Z8o [NH 0, GF, AF] [.is (.string s)] (.is (.bool true)) :=
CallF.of (fn := Tryz.f4) Tryz.func4 (n := 126) rfl rfl rfl (fun _ _ => by kernel_rfl) fun E W => by
  have hs1 := Ziu s.data.toList
  have hPN := fun N => c_PF N s
  have hbad := fun h => ZdG (l := s.data.toList) h
  have hpt := partsAll2 (l := s.data.toList)
  have hPU := c_PL 0 (upL false s.data.toList)
  obtain ⟨pU, hpU⟩ : ∃ q, q = prS (upL false s.data.toList) := ⟨_, rfl⟩
  rw [← hpU] at hPU hpt
  have hPI := c_PL 0 (10 :: (s.data.toList ++ [9, 32]))
  obtain ⟨pI, hpI⟩ : ∃ q, q = prS (10 :: (s.data.toList ++ [9, 32])) := ⟨_, rfl⟩
  rw [← hpI] at hPI hpt
  have hP3 := c_PL 0 (s.data.toList ++ [59])
  obtain ⟨p3, hp3⟩ : ∃ q, q = prS (s.data.toList ++ [59]) := ⟨_, rfl⟩
  rw [← hp3] at hP3 hpt
  have hP4 := c_PL 0 (s.data.toList ++ [59, 59])
  obtain ⟨p4, hp4⟩ : ∃ q, q = prS (s.data.toList ++ [59, 59]) := ⟨_, rfl⟩
  rw [← hp4] at hP4 hpt
  generalize prS s.data.toList = p at hs1 hPN hbad hpt
  have hlb := Z1w s
  repeat apply Sq
  apply Pn
  refine Jt (Z2 rfl) rfl ?_
  apply Ni
  repeat first | apply Nx | apply Nb
  refine Sl [0] (.cons rfl .nil) ?_
  repeat apply Sq
  apply Pn
  refine Jt (Z2o rfl ZaZ (fun F hF => by repeat (first | (rcases Mc.1 hF with rfl | hF; · (repeat first | exact Mh | apply Mt)) | (cases hF; done))) .nil) rfl ?_
  refine Jt (Z3k rfl) rfl ?_
  apply Ni
  repeat first | apply Nx | apply Nb
  refine Sl [0, 18] (.cons rfl (.cons rfl .nil)) ?_
  repeat apply Sq
  refine Cd rfl (fun ht18 => ?_) (fun ht18 => ?_)
  ·
    try simp only [dT, dF] at ht18
    repeat apply Sq
    apply Pn
    refine Jt (Z2 rfl) rfl ?_
    apply Ni
    repeat first | apply Nx | apply Nb
    refine Sl [2] (.cons rfl .nil) ?_
    repeat apply Sq
    apply Rt
    repeat first | apply Rp | apply Rb
    exact JX.ret1is rfl rfl (by exact absurd ht18 (by decide))
  ·
    try simp only [dT, dF] at ht18
    apply Sk
    repeat first | apply Nx | apply Nb
    repeat apply Sq
    apply Pn
    refine Jt (Z0 rfl) rfl ?_
    refine Jt (Z2o rfl (hPN 0) (fun F hF => by repeat (first | (rcases Mc.1 hF with rfl | hF; · (repeat first | exact Mh | apply Mt)) | (cases hF; done))) (.one rfl .nil)) rfl ?_
    refine Jt (Z0 rfl) rfl ?_
    refine Jt (Z1P rfl) rfl ?_
    refine Jt (Z1O rfl) rfl ?_
    refine JO.alloc ZU rfl fun b3 => ?_
    refine JO.m (Z3 rfl rfl (by repeat first | exact .here | apply Ut) (by exact Z19 rfl rfl) (by exact Z2d) Zj) (by rfl) ?_
    refine Jt (Z2 rfl) rfl ?_
    apply Ni
    repeat first | apply Nx | apply Nb
    refine Sl [0, 3, 4] (.cons rfl (.cons rfl (.cons rfl .nil))) ?_
    repeat apply Sq
    apply Pn
    refine Jt (Z0 rfl) rfl ?_
    refine Jt (Z1J rfl rfl) rfl ?_
    apply Ni
    repeat first | apply Nx | apply Nb
    refine Sl [0, 3, 25] (.cons rfl (.cons rfl (.cons rfl .nil))) ?_
    repeat apply Sq
    refine Cd rfl (fun ht25 => ?_) (fun ht25 => ?_)
    ·
      try simp only [dT, dF] at ht25
      refine J.front b3 (by repeat (first | exact .here | apply Front.there)) ?_
      refine J.openOwnSt fun vc vn vr vi vf vw vg vo vs h1c => ?_
      have hz : p.1 = st0 := hbad (by simpa using ht25)
      repeat apply Sq
      apply Pn
      refine Jt (ZG (cs := [_, _, _, _, _, _, _, _, _, _, _, _, _, _]) Z8 rfl rfl rfl) rfl ?_
      refine Jt (Zv (cs := [_, _, _, _, _, _, _, _, _, _, _, _, _, _]) Z1X .nil rfl rfl) rfl ?_
      refine Jt (ZK rfl (Z4x 0 0 p.1 hs1.1 hs1.2) (.sub rfl (Sub.st rfl fun X w hf w' hk => ⟨hf _ (by repeat first | exact Mh | apply Mt) w' hk, hf _ (by repeat first | exact Mh | apply Mt) w' hk, hf _ (by repeat first | exact Mh | apply Mt) w' hk, hf _ (by repeat first | exact Mh | apply Mt) w' hk, hf _ (by repeat first | exact Mh | apply Mt) w' hk, hf _ (by repeat first | exact Mh | apply Mt) w' hk, hf _ (by repeat first | exact Mh | apply Mt) w' hk, hf _ (by repeat first | exact Mh | apply Mt) w' hk, hf _ (by repeat first | exact Mh | apply Mt) w' hk⟩) (.sub rfl (by rw [hz]; exact SrZero) .nil))) rfl ?_
      refine Jt (Z2 rfl) rfl ?_
      apply Ni
      repeat first | apply Nx | apply Nb
      refine Sl [2] (.cons rfl .nil) ?_
      repeat apply Sq
      apply Rt
      repeat first | apply Rp | apply Rb
      exact JX.ret1is rfl rfl (rfl)
    ·
      try simp only [dT, dF] at ht25
      apply Sk
      repeat first | apply Nx | apply Nb
      refine J.front b3 (by repeat (first | exact .here | apply Front.there)) ?_
      refine J.openOwnSt fun vc vn vr vi vf vw vg vo vs h1c => ?_
      have hq0 : p.2 = 0 := by simpa using ht25
      obtain ⟨gU, gI1, gI2, g3, g4⟩ := hpt hq0
      rw [gU] at hPU
      have hI0 : pI.2 = 0 → pI = p := fun h => by
        by_cases hl : s.data.toList.length + 3 ≤ 2048
        · exact gI1 hl
        · rw [gI2 (by omega)] at h; cases h
      have hI1 : ¬ pI.2 = 0 → 2048 < s.size + 3 := fun h => by
        by_cases hl : s.data.toList.length + 3 ≤ 2048
        · rw [gI1 hl] at h; exact absurd hq0 h
        · omega
      have h30 : p3.2 = 0 → p3 = p := fun h => g3.elim id (fun h9 => by rw [h9] at h; cases h)
      repeat apply Sq
      apply Pn
      refine Jt (Z2 rfl) rfl ?_
      apply Ni
      repeat first | apply Nx | apply Nb
      refine Sl [0, 3, 5] (.cons rfl (.cons rfl (.cons rfl .nil))) ?_
      repeat apply Sq
      apply Pn
      refine Jt (Z2 rfl) rfl ?_
      apply Ni
      repeat first | apply Nx | apply Nb
      refine Sl [0, 3, 5, 6] (.cons rfl (.cons rfl (.cons rfl (.cons rfl .nil)))) ?_
      repeat apply Sq
      apply Pn
      refine Jt (Z2 rfl) rfl ?_
      apply Ni
      repeat first | apply Nx | apply Nb
      refine Sl [0, 3, 5, 6, 7] (.cons rfl (.cons rfl (.cons rfl (.cons rfl (.cons rfl .nil))))) ?_
      repeat apply Sq
      apply Bk
      repeat apply Sq
      refine J.loopG (α := Nat × Bool × List UInt8 × Option (Nat × List Value) × Nat) (fun z => [(0, .is (.string s)), (3, _), (5, .is (sliceO z.2.2.2.1 z.2.2.1.length z.2.2.2.2)), (6, .is (.bool z.2.1)), (7, .is (.int .i64 (z.1 : Nat)))]) (fun z => ownO z.2.2.2.1 Z7J [⟨b3, Zw, .is (stV p.1 vc vn vr vi vf vw vg vo vs)⟩]) (fun z => fun _ => True) (fun z => z.1 ≤ s.size ∧ z.2.2.1 ++ upL z.2.1 (dr s z.1) = upL false s.data.toList ∧ Grows bC 1 z.2.2.1 z.2.2.2.1 z.2.2.2.2 ∧ z.2.2.1.length ≤ z.1) (fun z => s.size - z.1) (0, false, [], none, 0) [0, 3, 5, 6, 7] (.cons rfl (.cons rfl (.cons rfl (.cons rfl (.cons rfl .nil))))) rfl (fun _ => trivial) ⟨by omega, rfl, rfl, by simp⟩ fun ⟨i, q, acc, st, cp⟩ ⟨hi, hx, hG, hal⟩ => ?_
      try dsimp only
      try dsimp only at q
      try dsimp only at acc
      try dsimp only at st
      try dsimp only at cp
      try dsimp only at hi
      try dsimp only at hx
      try dsimp only at hG
      try dsimp only at hal
      repeat apply Sq
      apply Pn
      refine Jt (Z0 rfl) rfl ?_
      refine Jt (Z0 rfl) rfl ?_
      refine Jt (Z2Y Zl rfl) rfl ?_
      refine Jt (Z1h rfl rfl) rfl ?_
      apply Ni
      repeat first | apply Nx | apply Nb
      refine Sl [0, 3, 5, 6, 7, 32] (.cons rfl (.cons rfl (.cons rfl (.cons rfl (.cons rfl (.cons rfl .nil)))))) ?_
      repeat apply Sq
      refine Cd rfl (fun ht32 => ?_) (fun ht32 => ?_)
      ·
        try simp only [dT, dF] at ht32
        apply Sk
        repeat first | apply Nx | apply Nb
        repeat apply Sq
        apply Bk
        repeat apply Sq
        apply Pn
        refine Jt (Z0 rfl) rfl ?_
        refine Jt (Z0 rfl) rfl ?_
        refine Jt (Z2P Zl rfl rfl (by omega) (by omega)) rfl ?_
        refine Jt (Z2 rfl) rfl ?_
        apply Ni
        repeat first | apply Nx | apply Nb
        refine Sl [0, 3, 5, 6, 7, 8] (.cons rfl (.cons rfl (.cons rfl (.cons rfl (.cons rfl (.cons rfl .nil)))))) ?_
        repeat apply Sq
        apply Pn
        refine Jt (Z0 rfl) rfl ?_
        refine Jt (Z1e rfl rfl) rfl ?_
        apply Ni
        repeat first | apply Nx | apply Nb
        refine Sl [0, 3, 5, 6, 7, 8, 39] (.cons rfl (.cons rfl (.cons rfl (.cons rfl (.cons rfl (.cons rfl (.cons rfl .nil))))))) ?_
        repeat apply Sq
        refine Cd rfl (fun ht39 => ?_) (fun ht39 => ?_)
        ·
          try simp only [dT, dF] at ht39
          repeat apply Sq
          apply Pn
          refine Jt (Z0 rfl) rfl ?_
          refine Jt (Z3k rfl) rfl ?_
          refine Jt (Z2 rfl) rfl ?_
          apply Ni
          repeat first | apply Nx | apply Nb
          refine Sl [0, 3, 5, 6, 7, 8] (.cons rfl (.cons rfl (.cons rfl (.cons rfl (.cons rfl (.cons rfl .nil)))))) ?_
          repeat apply Sq
          refine J.reg0 hmx (by kernel_rfl) (by kernel_rfl) ?_
          refine Rq (Z0 rfl) ?_
          refine Rq (Z3k rfl) ?_
          refine Rq (Z0 rfl) ?_
          refine Rg rfl rfl rfl (fun hg => Z0 (.inl rfl)) ?_
          refine Rg rfl rfl rfl (fun hg => Z8r (.inr ⟨_, rfl, id⟩) (.inl rfl)) ?_
          refine Rq (Zy rfl rfl rfl id) ?_
          refine Rq (Z0 rfl) ?_
          refine Rg rfl rfl rfl (fun hg => Z0 (.inl rfl)) ?_
          refine Rg rfl rfl rfl (fun hg => Z31 (.inr ⟨_, rfl, id⟩) (.inl rfl)) ?_
          refine Rq (Zy rfl rfl rfl id) ?_
          apply Rn
          refine FinS.nil0 ?_
          repeat first | apply Nx | apply Nb
          refine Sl [0, 3, 5, 6, 7, 8, 51] (.cons rfl (.cons rfl (.cons rfl (.cons rfl (.cons rfl (.cons rfl (.cons rfl .nil))))))) ?_
          repeat apply Sq
          refine Cd rfl (fun ht51 => ?_) (fun ht51 => ?_)
          ·
            try simp only [dT, dF] at ht51
            repeat apply Sq
            apply Pn
            refine Jt (Z0 rfl) rfl ?_
            refine Jt (ZdA (v := ((by_ s i - 32 : UInt8).toNat : Int)) rfl rfl (sub32 (Zfb ht51))) rfl ?_
            refine Jt (Z2 rfl) rfl ?_
            apply Ni
            repeat first | apply Nx | apply Nb
            refine Sl [0, 3, 5, 6, 7, 8] (.cons rfl (.cons rfl (.cons rfl (.cons rfl (.cons rfl (.cons rfl .nil)))))) ?_
            repeat apply Sq
            apply Pn
            refine Jt (Z0 rfl) rfl ?_
            refine Jt (Z0 rfl) rfl ?_
            refine Jt (ZF (cs := [_]) Z3m (by omega) (by omega) (.cons rfl .nil) rfl rfl rfl) rfl ?_
            refine JO.apP [by_ s i - 32] Z3p Z5k (by repeat (first | exact .here | apply Cx.past | apply Cx.there)) hG rfl rfl (fun L => Z4c Z1Q rfl rfl) (by simp) (by simp; omega) (by simp; omega) rfl (fun st1 cp1 hG1 => ?_)
            try dsimp only
            refine Jt (Z2 rfl) rfl ?_
            apply Ni
            repeat first | apply Nx | apply Nb
            refine Sl [0, 3, 5, 6, 7] (.cons rfl (.cons rfl (.cons rfl (.cons rfl (.cons rfl .nil))))) ?_
            repeat apply Sq
            apply Pn
            refine Jt (Z0 rfl) rfl ?_
            refine Jt (ZB (cc := ((i + 1 : Nat) : Int)) rfl rfl (by omega) (by omega) (by omega)) rfl ?_
            refine Jt (Z2 rfl) rfl ?_
            apply Ni
            repeat refine JX.normal_block ?_
            refine JX.roundG (x := ⟨i, q, acc, st, cp⟩) (i + 1, !q, acc ++ [by_ s i - 32], st1, cp1) ?_ ?_ [0, 3, 5, 6, 7] ?_ ?_ ?_ ?_
            · exact ⟨by omega, Z8F (by omega) (ZfD (show (((by_ s i).toNat : Int) == 39) = true from ht39)) (by unfold upC; rw [if_pos (show (!(!q) && smlB (by_ s i)) = true by rw [smlB, ← Bool.and_assoc]; exact ht51)]) hx, hG1, by simp; omega⟩
            · exact (by simp only; omega)
            · exact (.cons rfl (.cons rfl (.cons rfl (.cons rfl (.cons rfl .nil)))))
            · repeat (first | exact .all | exact .nil | refine Has.own (by repeat first | exact .here | apply Tl.past | apply Tl.there) ?_ | refine Has.cons (by repeat (first | exact .here | apply Pk.past | apply Pk.there)) ?_)
            · exact fun G hG => by repeat (first | exact hG | refine List.mem_cons_of_mem _ ?_)
            · exact fun _ _ _ => fun _ _ => trivial
          ·
            try simp only [dT, dF] at ht51
            apply Sk
            repeat first | apply Nx | apply Nb
            repeat apply Sq
            apply Pn
            refine Jt (Z0 rfl) rfl ?_
            refine Jt (Z0 rfl) rfl ?_
            refine Jt (ZF (cs := [_]) Z3m (by omega) (by omega) (.cons rfl .nil) rfl rfl rfl) rfl ?_
            refine JO.apP [by_ s i] Z3p Z5k (by repeat (first | exact .here | apply Cx.past | apply Cx.there)) hG rfl rfl (fun L => Z4c Z1Q rfl rfl) (by simp) (by simp; omega) (by simp; omega) rfl (fun st1 cp1 hG1 => ?_)
            try dsimp only
            refine Jt (Z2 rfl) rfl ?_
            apply Ni
            repeat first | apply Nx | apply Nb
            refine Sl [0, 3, 5, 6, 7] (.cons rfl (.cons rfl (.cons rfl (.cons rfl (.cons rfl .nil))))) ?_
            repeat apply Sq
            apply Pn
            refine Jt (Z0 rfl) rfl ?_
            refine Jt (ZB (cc := ((i + 1 : Nat) : Int)) rfl rfl (by omega) (by omega) (by omega)) rfl ?_
            refine Jt (Z2 rfl) rfl ?_
            apply Ni
            repeat refine JX.normal_block ?_
            refine JX.roundG (x := ⟨i, q, acc, st, cp⟩) (i + 1, !q, acc ++ [by_ s i], st1, cp1) ?_ ?_ [0, 3, 5, 6, 7] ?_ ?_ ?_ ?_
            · exact ⟨by omega, Z8F (by omega) (ZfD (show (((by_ s i).toNat : Int) == 39) = true from ht39)) (by unfold upC; rw [if_neg (show ¬ (!(!q) && smlB (by_ s i)) = true by rw [smlB, ← Bool.and_assoc]; intro h9; exact absurd (h9.symm.trans ht51) (by decide))]) hx, hG1, by simp; omega⟩
            · exact (by simp only; omega)
            · exact (.cons rfl (.cons rfl (.cons rfl (.cons rfl (.cons rfl .nil)))))
            · repeat (first | exact .all | exact .nil | refine Has.own (by repeat first | exact .here | apply Tl.past | apply Tl.there) ?_ | refine Has.cons (by repeat (first | exact .here | apply Pk.past | apply Pk.there)) ?_)
            · exact fun G hG => by repeat (first | exact hG | refine List.mem_cons_of_mem _ ?_)
            · exact fun _ _ _ => fun _ _ => trivial
        ·
          try simp only [dT, dF] at ht39
          apply Sk
          repeat first | apply Nx | apply Nb
          repeat apply Sq
          refine J.reg0 hmx (by kernel_rfl) (by kernel_rfl) ?_
          refine Rq (Z0 rfl) ?_
          refine Rq (Z3k rfl) ?_
          refine Rq (Z0 rfl) ?_
          refine Rg rfl rfl rfl (fun hg => Z0 (.inl rfl)) ?_
          refine Rg rfl rfl rfl (fun hg => Z8r (.inr ⟨_, rfl, id⟩) (.inl rfl)) ?_
          refine Rq (Zy rfl rfl rfl id) ?_
          refine Rq (Z0 rfl) ?_
          refine Rg rfl rfl rfl (fun hg => Z0 (.inl rfl)) ?_
          refine Rg rfl rfl rfl (fun hg => Z31 (.inr ⟨_, rfl, id⟩) (.inl rfl)) ?_
          refine Rq (Zy rfl rfl rfl id) ?_
          apply Rn
          refine FinS.nil0 ?_
          repeat first | apply Nx | apply Nb
          refine Sl [0, 3, 5, 6, 7, 8, 51] (.cons rfl (.cons rfl (.cons rfl (.cons rfl (.cons rfl (.cons rfl (.cons rfl .nil))))))) ?_
          repeat apply Sq
          refine Cd rfl (fun ht51 => ?_) (fun ht51 => ?_)
          ·
            try simp only [dT, dF] at ht51
            repeat apply Sq
            apply Pn
            refine Jt (Z0 rfl) rfl ?_
            refine Jt (ZdA (v := ((by_ s i - 32 : UInt8).toNat : Int)) rfl rfl (sub32 (Zfb ht51))) rfl ?_
            refine Jt (Z2 rfl) rfl ?_
            apply Ni
            repeat first | apply Nx | apply Nb
            refine Sl [0, 3, 5, 6, 7, 8] (.cons rfl (.cons rfl (.cons rfl (.cons rfl (.cons rfl (.cons rfl .nil)))))) ?_
            repeat apply Sq
            apply Pn
            refine Jt (Z0 rfl) rfl ?_
            refine Jt (Z0 rfl) rfl ?_
            refine Jt (ZF (cs := [_]) Z3m (by omega) (by omega) (.cons rfl .nil) rfl rfl rfl) rfl ?_
            refine JO.apP [by_ s i - 32] Z3p Z5k (by repeat (first | exact .here | apply Cx.past | apply Cx.there)) hG rfl rfl (fun L => Z4c Z1Q rfl rfl) (by simp) (by simp; omega) (by simp; omega) rfl (fun st1 cp1 hG1 => ?_)
            try dsimp only
            refine Jt (Z2 rfl) rfl ?_
            apply Ni
            repeat first | apply Nx | apply Nb
            refine Sl [0, 3, 5, 6, 7] (.cons rfl (.cons rfl (.cons rfl (.cons rfl (.cons rfl .nil))))) ?_
            repeat apply Sq
            apply Pn
            refine Jt (Z0 rfl) rfl ?_
            refine Jt (ZB (cc := ((i + 1 : Nat) : Int)) rfl rfl (by omega) (by omega) (by omega)) rfl ?_
            refine Jt (Z2 rfl) rfl ?_
            apply Ni
            repeat refine JX.normal_block ?_
            refine JX.roundG (x := ⟨i, q, acc, st, cp⟩) (i + 1, q, acc ++ [by_ s i - 32], st1, cp1) ?_ ?_ [0, 3, 5, 6, 7] ?_ ?_ ?_ ?_
            · exact ⟨by omega, Z8F (by omega) (ZeD (show (((by_ s i).toNat : Int) == 39) = false from ht39)) (by unfold upC; rw [if_pos (show (!q && smlB (by_ s i)) = true by rw [smlB, ← Bool.and_assoc]; exact ht51)]) hx, hG1, by simp; omega⟩
            · exact (by simp only; omega)
            · exact (.cons rfl (.cons rfl (.cons rfl (.cons rfl (.cons rfl .nil)))))
            · repeat (first | exact .all | exact .nil | refine Has.own (by repeat first | exact .here | apply Tl.past | apply Tl.there) ?_ | refine Has.cons (by repeat (first | exact .here | apply Pk.past | apply Pk.there)) ?_)
            · exact fun G hG => by repeat (first | exact hG | refine List.mem_cons_of_mem _ ?_)
            · exact fun _ _ _ => fun _ _ => trivial
          ·
            try simp only [dT, dF] at ht51
            apply Sk
            repeat first | apply Nx | apply Nb
            repeat apply Sq
            apply Pn
            refine Jt (Z0 rfl) rfl ?_
            refine Jt (Z0 rfl) rfl ?_
            refine Jt (ZF (cs := [_]) Z3m (by omega) (by omega) (.cons rfl .nil) rfl rfl rfl) rfl ?_
            refine JO.apP [by_ s i] Z3p Z5k (by repeat (first | exact .here | apply Cx.past | apply Cx.there)) hG rfl rfl (fun L => Z4c Z1Q rfl rfl) (by simp) (by simp; omega) (by simp; omega) rfl (fun st1 cp1 hG1 => ?_)
            try dsimp only
            refine Jt (Z2 rfl) rfl ?_
            apply Ni
            repeat first | apply Nx | apply Nb
            refine Sl [0, 3, 5, 6, 7] (.cons rfl (.cons rfl (.cons rfl (.cons rfl (.cons rfl .nil))))) ?_
            repeat apply Sq
            apply Pn
            refine Jt (Z0 rfl) rfl ?_
            refine Jt (ZB (cc := ((i + 1 : Nat) : Int)) rfl rfl (by omega) (by omega) (by omega)) rfl ?_
            refine Jt (Z2 rfl) rfl ?_
            apply Ni
            repeat refine JX.normal_block ?_
            refine JX.roundG (x := ⟨i, q, acc, st, cp⟩) (i + 1, q, acc ++ [by_ s i], st1, cp1) ?_ ?_ [0, 3, 5, 6, 7] ?_ ?_ ?_ ?_
            · exact ⟨by omega, Z8F (by omega) (ZeD (show (((by_ s i).toNat : Int) == 39) = false from ht39)) (by unfold upC; rw [if_neg (show ¬ (!q && smlB (by_ s i)) = true by rw [smlB, ← Bool.and_assoc]; intro h9; exact absurd (h9.symm.trans ht51) (by decide))]) hx, hG1, by simp; omega⟩
            · exact (by simp only; omega)
            · exact (.cons rfl (.cons rfl (.cons rfl (.cons rfl (.cons rfl .nil)))))
            · repeat (first | exact .all | exact .nil | refine Has.own (by repeat first | exact .here | apply Tl.past | apply Tl.there) ?_ | refine Has.cons (by repeat (first | exact .here | apply Pk.past | apply Pk.there)) ?_)
            · exact fun G hG => by repeat (first | exact hG | refine List.mem_cons_of_mem _ ?_)
            · exact fun _ _ _ => fun _ _ => trivial
      ·
        try simp only [dT, dF] at ht32
        repeat apply Sq
        refine J.exit ?_
        repeat first | refine Ht ?_ | refine Ms rfl ?_ | refine Ep ?_
        repeat first | apply Nx | apply Nb
        have hacc : acc = upL false s.data.toList := by rw [← hx, Z76 (by omega)]; simp [upL]
        refine J.freezeO Z5k hG (e := Z7J) (by repeat first | exact .here | apply Tl.past | apply Tl.there) (fun _ h => h) rfl rfl ?_
        obtain ⟨cap2, hso⟩ := ZaC hG
        rw [hso, hacc]
        repeat apply Sq
        apply Pn
        refine Jt (Z0 rfl) rfl ?_
        refine Jt (Zfu Z1Q Z7x Zl rfl (by repeat first | exact Mh | apply Mt)) rfl ?_
        refine Jt (Z2o rfl hPU (fun F hF => by repeat (first | (rcases Mc.1 hF with rfl | hF; · (repeat first | exact Mh | apply Mt)) | (cases hF; done))) (.one rfl .nil)) rfl ?_
        refine Jt (Z0 rfl) rfl ?_
        refine Jt (Z1P rfl) rfl ?_
        refine Jt (Z1O rfl) rfl ?_
        refine JO.alloc ZU rfl fun b9 => ?_
        refine JO.m (Z3 rfl rfl (by repeat first | exact .here | apply Ut) (by exact Z19 rfl rfl) (by exact Z2d) Zj) (by rfl) ?_
        refine Jt (Z2 rfl) rfl ?_
        apply Ni
        repeat first | apply Nx | apply Nb
        refine Sl [0, 3, 9, 10] (.cons rfl (.cons rfl (.cons rfl (.cons rfl .nil)))) ?_
        repeat apply Sq
        apply Pn
        refine Jt (Z0 rfl) rfl ?_
        refine Jt (Z7I (u := bl (10 :: s.data.toList)) rfl rfl (by have h := Z1w s; exact Nat.le_trans (Nat.add_le_add_right (show _ ≤ 100 by decide) _) (by omega)) (by first | (rw [Z5d]; done) | (rw [Z5d]; rfl))) rfl ?_
        refine Jt (Z7I (u := bl (10 :: (s.data.toList ++ [9, 32]))) rfl rfl (by rw [Z8H]; exact Nat.le_trans (Nat.add_le_add_left (show _ ≤ 100 by decide) _) (by show s.data.toList.length + 1 + 100 ≤ _; omega)) (by first | (rw [Z5d]; done) | (rw [Z5d]; rfl))) rfl ?_
        refine Jt (Z2o rfl hPI (fun F hF => by repeat (first | (rcases Mc.1 hF with rfl | hF; · (repeat first | exact Mh | apply Mt)) | (cases hF; done))) (.one rfl .nil)) rfl ?_
        refine Jt (Z0 rfl) rfl ?_
        refine Jt (Z1P rfl) rfl ?_
        refine Jt (Z1O rfl) rfl ?_
        refine JO.alloc ZU rfl fun b11 => ?_
        refine JO.m (Z3 rfl rfl (by repeat first | exact .here | apply Ut) (by exact Z19 rfl rfl) (by exact Z2d) Zj) (by rfl) ?_
        refine Jt (Z2 rfl) rfl ?_
        apply Ni
        repeat first | apply Nx | apply Nb
        refine Sl [0, 3, 9, 10, 11, 12] (.cons rfl (.cons rfl (.cons rfl (.cons rfl (.cons rfl (.cons rfl .nil)))))) ?_
        refine J.front b9 (by repeat (first | exact .here | apply Front.there)) ?_
        refine J.openOwnSt fun vcu vnu vru viu vfu vwu vgu vou vsu h1cu => ?_
        refine J.front b11 (by repeat (first | exact .here | apply Front.there)) ?_
        refine J.openOwnSt fun vcj vnj vrj vij vfj vwj vgj voj vsj h1cj => ?_
        repeat apply Sq
        refine J.reg0 hmx (by kernel_rfl) (by kernel_rfl) ?_
        refine Rq (Z0 rfl) ?_
        refine Rq (Z1J rfl rfl) ?_
        refine Rq (Z0 rfl) ?_
        refine Rg rfl rfl rfl (fun hg => ZG (cs := [_, _, _, _, _, _, _, _, _, _, _, _, _, _]) Z8 (.inl rfl) rfl rfl) ?_
        refine Rg rfl rfl rfl (fun hg => ZG (cs := [_, _, _, _, _, _, _, _, _, _, _, _, _, _]) Z8 (.inl rfl) rfl rfl) ?_
        refine Rg rfl rfl rfl (fun hg => ZK (.inl rfl) (Z4x 0 0 p.1 hs1.1 hs1.2) (.sub (.inr ⟨_, rfl, id⟩) (Sub.st rfl fun X w hf w' hk => ⟨hf _ (by repeat first | exact Mh | apply Mt) w' hk, hf _ (by repeat first | exact Mh | apply Mt) w' hk, hf _ (by repeat first | exact Mh | apply Mt) w' hk, hf _ (by repeat first | exact Mh | apply Mt) w' hk, hf _ (by repeat first | exact Mh | apply Mt) w' hk, hf _ (by repeat first | exact Mh | apply Mt) w' hk, hf _ (by repeat first | exact Mh | apply Mt) w' hk, hf _ (by repeat first | exact Mh | apply Mt) w' hk, hf _ (by repeat first | exact Mh | apply Mt) w' hk⟩) (.sub (.inr ⟨_, rfl, id⟩) (Sub.st rfl fun X w hf w' hk => ⟨hf _ (by repeat first | exact Mh | apply Mt) w' hk, hf _ (by repeat first | exact Mh | apply Mt) w' hk, hf _ (by repeat first | exact Mh | apply Mt) w' hk, hf _ (by repeat first | exact Mh | apply Mt) w' hk, hf _ (by repeat first | exact Mh | apply Mt) w' hk, hf _ (by repeat first | exact Mh | apply Mt) w' hk, hf _ (by repeat first | exact Mh | apply Mt) w' hk, hf _ (by repeat first | exact Mh | apply Mt) w' hk, hf _ (by repeat first | exact Mh | apply Mt) w' hk⟩) .nil))) ?_
        refine Rg rfl rfl rfl (fun hg => Z3k (.inr ⟨_, rfl, id⟩)) ?_
        refine Rq (ZM rfl rfl rfl id) ?_
        refine Rq (Z0 rfl) ?_
        refine Rg rfl rfl rfl (fun hg => Z0 (.inl rfl)) ?_
        refine Rg rfl rfl rfl (fun hg => Z1e (.inr ⟨_, rfl, id⟩) (.inl rfl)) ?_
        refine Rg rfl rfl rfl (fun hg => Z0 (.inr ⟨_, rfl, id⟩)) ?_
        refine RT.gg rfl rfl rfl (fun hg => (ZG (cs := [_, _, _, _, _, _, _, _, _, _, _, _, _, _]) Z8 (.inl rfl) rfl rfl)) ?_
        refine RT.gg rfl rfl rfl (fun hg => (ZG (cs := [_, _, _, _, _, _, _, _, _, _, _, _, _, _]) Z8 (.inl rfl) rfl rfl)) ?_
        refine RT.gg rfl rfl rfl (fun hg => (ZK (.inl rfl) (Z4x 0 0 p.1 hs1.1 hs1.2) (.sub (.inr ⟨_, rfl, id⟩) (Sub.st rfl fun X w hf w' hk => ⟨hf _ (by repeat first | exact Mh | apply Mt) w' hk, hf _ (by repeat first | exact Mh | apply Mt) w' hk, hf _ (by repeat first | exact Mh | apply Mt) w' hk, hf _ (by repeat first | exact Mh | apply Mt) w' hk, hf _ (by repeat first | exact Mh | apply Mt) w' hk, hf _ (by repeat first | exact Mh | apply Mt) w' hk, hf _ (by repeat first | exact Mh | apply Mt) w' hk, hf _ (by repeat first | exact Mh | apply Mt) w' hk, hf _ (by repeat first | exact Mh | apply Mt) w' hk⟩) (.sub (.inr ⟨_, rfl, id⟩) (by have e : pI = p := hI0 (by simp at hg; exact hg.2); rw [← e]; exact Sub.st rfl fun X w hf w' hk => ⟨hf _ (by repeat first | exact Mh | apply Mt) w' hk, hf _ (by repeat first | exact Mh | apply Mt) w' hk, hf _ (by repeat first | exact Mh | apply Mt) w' hk, hf _ (by repeat first | exact Mh | apply Mt) w' hk, hf _ (by repeat first | exact Mh | apply Mt) w' hk, hf _ (by repeat first | exact Mh | apply Mt) w' hk, hf _ (by repeat first | exact Mh | apply Mt) w' hk, hf _ (by repeat first | exact Mh | apply Mt) w' hk, hf _ (by repeat first | exact Mh | apply Mt) w' hk⟩) .nil)))) ?_
        refine RT.gg rfl rfl rfl (fun hg => (Z3k (.inr ⟨_, rfl, id⟩))) ?_
        refine Rg rfl rfl rfl (fun hg => Zy (.inr ⟨_, rfl, id⟩) (.inl rfl) (.inl rfl) (fun h => ⟨hg, h⟩)) ?_
        refine Rq (ZM rfl rfl rfl id) ?_
        refine Rq (Z0 rfl) ?_
        refine Rg rfl rfl rfl (fun hg => Z0 (.inl rfl)) ?_
        refine Rg rfl rfl rfl (fun hg => Z1J (.inr ⟨_, rfl, id⟩) (.inl rfl)) ?_
        refine Rg rfl rfl rfl (fun hg => Z0 (.inr ⟨_, rfl, id⟩)) ?_
        refine RT.gg rfl rfl rfl (fun hg => (Z0 (.inl rfl))) ?_
        refine RT.gg rfl rfl rfl (fun hg => (Z2Y Zl (.inr ⟨_, rfl, id⟩))) ?_
        refine RT.gg rfl rfl rfl (fun hg => (ZB (cc := ((s.size + 3 : Nat) : Int)) (.inr ⟨_, rfl, id⟩) (.inl rfl) (by omega) (by omega) (by omega))) ?_
        refine RT.gg rfl rfl rfl (fun hg => (Z31 (.inr ⟨_, rfl, id⟩) (.inl rfl))) ?_
        refine Rg rfl rfl rfl (fun hg => Zy (.inr ⟨_, rfl, id⟩) (.inl rfl) (.inl rfl) (fun h => ⟨hg, h⟩)) ?_
        refine Rq (ZM rfl rfl rfl id) ?_
        apply Rn
        refine FinS.nil0 ?_
        repeat first | apply Nx | apply Nb
        refine Sl [0, 3, 98] (.cons rfl (.cons rfl (.cons rfl .nil))) ?_
        repeat apply Sq
        refine Cd rfl (fun ht98 => ?_) (fun ht98 => ?_)
        ·
          try simp only [dT, dF] at ht98
          repeat apply Sq
          apply Pn
          refine Jt (Z2 rfl) rfl ?_
          apply Ni
          repeat first | apply Nx | apply Nb
          refine Sl [2] (.cons rfl .nil) ?_
          repeat apply Sq
          apply Rt
          repeat first | apply Rp | apply Rb
          exact JX.ret1is rfl rfl (by
      have h1 := hI1; simp [hq0] at ht98; omega)
        ·
          try simp only [dT, dF] at ht98
          apply Sk
          repeat first | apply Nx | apply Nb
          repeat apply Sq
          apply Pn
          refine Jt (Z0 rfl) rfl ?_
          refine Jt (Z7I (u := bl (s.data.toList ++ [59])) rfl rfl (by have h := Z1w s; exact Nat.le_trans (Nat.add_le_add_left (show _ ≤ 100 by decide) _) (by omega)) (by first | (rw [Z5d]; done) | (rw [Z5d]; rfl))) rfl ?_
          refine Jt (Z2o rfl hP3 (fun F hF => by repeat (first | (rcases Mc.1 hF with rfl | hF; · (repeat first | exact Mh | apply Mt)) | (cases hF; done))) (.one rfl .nil)) rfl ?_
          refine Jt (Z0 rfl) rfl ?_
          refine Jt (Z1P rfl) rfl ?_
          refine Jt (Z1O rfl) rfl ?_
          refine JO.alloc ZU rfl fun b13 => ?_
          refine JO.m (Z3 rfl rfl (by repeat first | exact .here | apply Ut) (by exact Z19 rfl rfl) (by exact Z2d) Zj) (by rfl) ?_
          refine Jt (Z2 rfl) rfl ?_
          apply Ni
          repeat first | apply Nx | apply Nb
          refine Sl [0, 3, 13, 14] (.cons rfl (.cons rfl (.cons rfl (.cons rfl .nil)))) ?_
          repeat apply Sq
          apply Pn
          refine Jt (Z0 rfl) rfl ?_
          refine Jt (Z7I (u := bl (s.data.toList ++ [59, 59])) rfl rfl (by have h := Z1w s; exact Nat.le_trans (Nat.add_le_add_left (show _ ≤ 100 by decide) _) (by omega)) (by first | (rw [Z5d]; done) | (rw [Z5d]; rfl))) rfl ?_
          refine Jt (Z2o rfl hP4 (fun F hF => by repeat (first | (rcases Mc.1 hF with rfl | hF; · (repeat first | exact Mh | apply Mt)) | (cases hF; done))) (.one rfl .nil)) rfl ?_
          refine Jt (Z0 rfl) rfl ?_
          refine Jt (Z1P rfl) rfl ?_
          refine Jt (Z1O rfl) rfl ?_
          refine JO.alloc ZU rfl fun b15 => ?_
          refine JO.m (Z3 rfl rfl (by repeat first | exact .here | apply Ut) (by exact Z19 rfl rfl) (by exact Z2d) Zj) (by rfl) ?_
          refine Jt (Z2 rfl) rfl ?_
          apply Ni
          repeat first | apply Nx | apply Nb
          refine Sl [3, 13, 14, 16] (.cons rfl (.cons rfl (.cons rfl (.cons rfl .nil)))) ?_
          refine J.front b13 (by repeat (first | exact .here | apply Front.there)) ?_
          refine J.openOwnSt fun vck vnk vrk vik vfk vwk vgk vok vsk h1ck => ?_
          repeat apply Sq
          refine J.reg0 hmx (by kernel_rfl) (by kernel_rfl) ?_
          refine Rq (Z0 rfl) ?_
          refine Rq (Z1e rfl rfl) ?_
          refine Rq (Z0 rfl) ?_
          refine Rg rfl rfl rfl (fun hg => Z0 (.inl rfl)) ?_
          refine Rg rfl rfl rfl (fun hg => Z1e (.inr ⟨_, rfl, id⟩) (.inl rfl)) ?_
          refine Rg rfl rfl rfl (fun hg => Z0 (.inr ⟨_, rfl, id⟩)) ?_
          refine RT.gg rfl rfl rfl (fun hg => (Z0 (.inl rfl))) ?_
          refine RT.gg rfl rfl rfl (fun hg => (Z1e (.inr ⟨_, rfl, id⟩) (.inl rfl))) ?_
          refine RT.gg rfl rfl rfl (fun hg => (Z0 (.inr ⟨_, rfl, id⟩))) ?_
          refine RT.gg rfl rfl rfl (fun hg => (ZG (cs := [_, _, _, _, _, _, _, _, _, _, _, _, _, _]) Z8 (.inl rfl) rfl rfl)) ?_
          refine RT.gg rfl rfl rfl (fun hg => (ZG (cs := [_, _, _, _, _, _, _, _, _, _, _, _, _, _]) Z8 (.inl rfl) rfl rfl)) ?_
          refine RT.gg rfl rfl rfl (fun hg => (ZK (.inl rfl) (Z4x 0 0 p.1 hs1.1 hs1.2) (.sub (.inr ⟨_, rfl, id⟩) (Sub.st rfl fun X w hf w' hk => ⟨hf _ (by repeat first | exact Mh | apply Mt) w' hk, hf _ (by repeat first | exact Mh | apply Mt) w' hk, hf _ (by repeat first | exact Mh | apply Mt) w' hk, hf _ (by repeat first | exact Mh | apply Mt) w' hk, hf _ (by repeat first | exact Mh | apply Mt) w' hk, hf _ (by repeat first | exact Mh | apply Mt) w' hk, hf _ (by repeat first | exact Mh | apply Mt) w' hk, hf _ (by repeat first | exact Mh | apply Mt) w' hk, hf _ (by repeat first | exact Mh | apply Mt) w' hk⟩) (.sub (.inr ⟨_, rfl, id⟩) (by have e : p3 = p := h30 (by simp at hg; exact hg.2); rw [← e]; exact Sub.st rfl fun X w hf w' hk => ⟨hf _ (by repeat first | exact Mh | apply Mt) w' hk, hf _ (by repeat first | exact Mh | apply Mt) w' hk, hf _ (by repeat first | exact Mh | apply Mt) w' hk, hf _ (by repeat first | exact Mh | apply Mt) w' hk, hf _ (by repeat first | exact Mh | apply Mt) w' hk, hf _ (by repeat first | exact Mh | apply Mt) w' hk, hf _ (by repeat first | exact Mh | apply Mt) w' hk, hf _ (by repeat first | exact Mh | apply Mt) w' hk, hf _ (by repeat first | exact Mh | apply Mt) w' hk⟩) .nil)))) ?_
          refine RT.gg rfl rfl rfl (fun hg => (Zy (.inr ⟨_, rfl, id⟩) (.inl rfl) (.inl rfl) (fun h => ⟨hg, h⟩))) ?_
          refine Rg rfl rfl rfl (fun hg => ZM (.inr ⟨_, rfl, id⟩) (.inl rfl) (.inl rfl) (fun h => ⟨hg, h⟩)) ?_
          refine Rq (Zy rfl rfl rfl id) ?_
          refine Rq (Z2 rfl) ?_
          apply Rn
          refine FinS.nil0 ?_
          repeat first | apply Nx | apply Nb
          refine Sl [2] (.cons rfl .nil) ?_
          repeat apply Sq
          apply Rt
          repeat first | apply Rp | apply Rb
          exact JX.ret1is rfl rfl (by rcases g3 with h9 | h9 <;> simp [h9, g4, hq0])
end Go.Proofs.YtbedigkncjbggaaGreatDoor
set_option maxRecDepth 100000
namespace Go.Proofs.YtbedigkncjbggaaGreatDoor
open Go Go.Vc Go.Shelf Go.ChangeShapes Go.WideShapes Go.ChangeAt Go.RowKit
theorem own : ownKnob Tryz.prog.godebug = none := by kernel_rfl
theorem laidOut : laidOutB Tryz.prog = true := by kernel_rfl
def litCells : DataW Unit → Array Value
 | .agg l => (l.map fun | .lit (.int k z) => Value.int k z | _ => undef).toArray
 | _ => #[]
def accCells : Array Value := ((List.range 16).flatMap fun i => [Value.int .u8 (Lib.accLo i), Value.int .u8 (Lib.accHi i)]).toArray
def wsCells : Array Value := ([9, 13, 1, 32, 133, 101, 160, 5760, 5600, 8192, 8202, 1, 8232, 8233, 1, 8239, 8287, 48, 12288, 12288, 1].map fun z => Value.int .u16 z).toArray
noncomputable def laidWorld (os : Os) : World :=
 let N := (World.settled Tryz.prog os).heap.size
 let w0 := World.holding Tryz.prog os ⟨#[.cells Lib.caseCells5 (Z3X.t 208), .cells #[.slice (some ⟨N + 2, 0, none⟩) 7 7, .slice none 0 0, .int .i64 2] 217, .cells wsCells 220], #[], []⟩
 let put (h : Array Obj) (g : Nat) (cs : Array Value) : Array Obj := h.modify g fun
  | .cells _ t frozen => .cells cs t frozen
  | o => o
 let h0 := put w0.heap 0 (litCells Rows.laid_strings_asciiSpace)
 let h3 := put h0 3 #[.slice (some ⟨N, 0, none⟩) 336 336]
 let h4 := put h3 4 #[.pointer (some ⟨N + 1, 0, none⟩)]
 let h5 := put h4 5 (Lib.firstTab.map fun z => Value.int .u8 z).toArray
 let h6 := put h5 6 accCells
 let h2 := put h6 2 (litCells Rows.laid_internal_strconv_uint64pow10)
 let h7 := put h2 7 (litCells Rows.laid_math_bits_deBruijn32tab)
 let h8 := put h7 8 (litCells Rows.laid_math_bits_deBruijn64tab)
 { w0 with heap := h8 }
noncomputable abbrev N0 : Nat := (World.settled Tryz.prog default).heap.size
noncomputable abbrev LW (os : Os) (args : Array Value) : World := ((laidWorld os).forCall (fun _ _ => 0) ⟨#[], args, []⟩).memory
theorem ZeK (os : Os) (args : Array Value) : LaidIn Tryz.prog (LW os args) [("unicode/utf8.acceptRanges", Rows.laid_unicode_utf8_acceptRanges)] [6] :=
 LaidIn.of_run [6] 8 (by kernel_rfl) (by kernel_rfl) (by kernel_rfl) (by kernel_rfl)
theorem ZcM (os : Os) (args : Array Value) : LaidIn Tryz.prog (LW os args) [("unicode/utf8.first", Rows.laid_unicode_utf8_first)] [5] :=
 LaidIn.of_run [5] 8 (by kernel_rfl) (by kernel_rfl) (by kernel_rfl) (by kernel_rfl)
theorem Zd0 {P : Program} {ρ : Ren} (L : Lays.n274 P ρ) (t206 : P.underlying (ρ.t 206) = some (.array 3 (ρ.t 21))) (X : CaseExtra P ρ) {w : World} (R : Nat) (t : TypeId) (hgR : ρ.g 13 ≠ R)
    (hvar : w.heap[ρ.g 13]? = some (.cells #[.slice (some ⟨R, 0, none⟩) Lib.caseA.size Lib.caseA.size] (ρ.t 162) (0, 0)))
    (hblk : w.heap[R]? = some (.cells Lib.caseCells5 t (0, 0))) : LaidIn P w [("unicode.CaseRanges", Lib.caseData)] [ρ.g 13, R] := by
  have hT := caseTab_of_block hblk
  have hread := case_slice_reads L t206 X hT caseA_wf (by rw [Lib.caseA_size]; unfold maxLen; omega) 0
  rw [case_rows_data] at hread
  have hv : w.var? P "unicode.CaseRanges" = some #[.slice (some ⟨R, 0, none⟩) Lib.caseA.size Lib.caseA.size] := by simp [World.var?, X.n13, hvar]
  refine LaidIn.one (cs := #[.slice (some ⟨R, 0, none⟩) Lib.caseA.size Lib.caseA.size]) [ρ.g 13, R] X.n13 X.y13 hv hread ?_ ?_ ?_
  · refine List.nodup_append.2 ⟨row_nodup _ _, row_nodup _ _, ?_⟩
    intro a ha b hb e
    obtain ⟨i, _, rfl⟩ := MemPlace.mem_row.1 ha
    obtain ⟨j, _, rfl⟩ := MemPlace.mem_row.1 hb
    simp at e
    exact hgR e.1
  · intro b off hp
    rcases List.mem_append.1 hp with hp | hp
    · obtain ⟨i, hi, e⟩ := MemPlace.mem_row.1 hp
      cases e
      refine ⟨⟨_, _, hvar⟩, fun u v hc => ?_⟩
      obtain rfl : i = 0 := by simp at hi; omega
      rw [Lib.cell_of_heap hvar] at hc
      simp at hc
    · obtain ⟨i, hi, e⟩ := MemPlace.mem_row.1 hp
      cases e
      refine ⟨⟨_, _, hblk⟩, fun u v hc => ?_⟩
      obtain ⟨c0, c1, c2, c3, c4⟩ := hT (i / 5) (by omega)
      have hi5 : 0 + i = 0 + i / 5 * 5 + i % 5 := by omega
      simp only at hc
      rw [hi5] at hc
      have hm : i % 5 < 5 := Nat.mod_lt _ (by omega)
      match hk : i % 5, hm with
      | 0, _ => rw [hk, Nat.add_zero, c0] at hc; cases hc
      | 1, _ => rw [hk, c1] at hc; cases hc
      | 2, _ => rw [hk, c2] at hc; cases hc
      | 3, _ => rw [hk, c3] at hc; cases hc
      | 4, _ => rw [hk, c4] at hc; cases hc
  · intro x hx
    rcases List.mem_append.1 hx with hx | hx
    · obtain ⟨i, _, rfl⟩ := MemPlace.mem_row.1 hx
      exact List.mem_cons_self
    · obtain ⟨i, _, rfl⟩ := MemPlace.mem_row.1 hx
      exact List.mem_cons_of_mem _ List.mem_cons_self
theorem caseX : CaseExtra Tryz.prog Z3X := ⟨by kernel_rfl, by kernel_rfl, by kernel_rfl, by kernel_rfl, by kernel_rfl, by kernel_rfl⟩
theorem Zeb (os : Os) (args : Array Value) : LaidIn Tryz.prog (LW os args) [("unicode.CaseRanges", Rows.laid_unicode_CaseRanges)] [3, N0] := by
 show LaidIn Tryz.prog (LW os args) [("unicode.CaseRanges", Go.Pinned.caseRanges)] [3, N0]
 rw [Pinned.caseRanges_eq]
 exact Zd0 { lays158 with } lays158.t206 caseX N0 (Z3X.t 208) (of_decide_eq_true (by kernel_rfl)) (by kernel_rfl) (by kernel_rfl)
theorem ZgG (os : Os) (args : Array Value) : LaidIn Tryz.prog (LW os args) [("unicode.White_Space", Rows.laid_unicode_White_Space)] [4, N0 + 1, N0 + 2] :=
 LaidIn.of_run [4, N0 + 1, N0 + 2] 8 (by kernel_rfl) (by kernel_rfl) (by kernel_rfl) (by kernel_rfl)
theorem Zf6 (os : Os) (args : Array Value) : LaidIn Tryz.prog (LW os args) [("strings.asciiSpace", Rows.laid_strings_asciiSpace)] [0] :=
 LaidIn.of_run [0] 8 (by kernel_rfl) (by kernel_rfl) (by kernel_rfl) (by kernel_rfl)
theorem ZeA (os : Os) (args : Array Value) : laidMet Tryz.prog Rows.parseOnceRow.laid (LW os args) :=
 (((((ZeK os args).append (ZgG os args) (by kernel_rfl)).append (Zf6 os args) (by kernel_rfl)).append (Zeb os args) (by kernel_rfl)).append (ZcM os args) (by kernel_rfl)).met
end Go.Proofs.YtbedigkncjbggaaGreatDoor
set_option maxRecDepth 100000
namespace Go.Proofs.YtbedigkncjbggaaGreatDoor
open Go Go.Vc Go.ChangeShapes Go.WideShapes Go.ChangeAt Go.RowKit
theorem ZfO {W : World} (h : W.ShapedOpen Tryz.prog) : GF W :=
 cell_of_shapedOpen_int (zero := #[.int .i64 0]) (t := 3) h (of_decide_eq_true (by kernel_rfl)) (by kernel_rfl) rfl (by kernel_rfl) (by kernel_rfl) Tryz.underlying3
theorem Zey {W : World} {a : Addr} {v : Value} (h : W.cell? a = some v) : ∀ w', Keeps noX W w' → w'.cell? a = some v := fun w' hk => by
  unfold World.cell? at h ⊢
  cases hb : W.heap[a.block]? with
  | none => rw [hb] at h; simp at h
  | some o =>
    rw [hk.get hb (fun h => h)]
    rw [hb] at h
    exact h
theorem ZhD {W : World} (h : GF W) : Pers noX W GF := fun w' hk => by
 obtain ⟨m, hm⟩ := h
 exact ⟨m, Zey hm w' hk⟩
theorem ZfS : Tryz.prog.readableRec ZN = true ∧ ZN < Tryz.prog.types.size := ⟨by kernel_rfl, of_decide_eq_true (by kernel_rfl)⟩
theorem size1 {H : Type} {l : List UInt8} (h : (DataW.weightsEach (H := H) Tryz.prog [ZN] [.lit (.string l)]).all (· ≤ reachBytes) = true) : l.length ≤ 140737488351232 := by
 simp only [DataW.weightsEach, DataW.weights, List.append_nil, List.all_cons, List.all_nil, Bool.and_true, decide_eq_true_eq] at h
 exact h
theorem ZhC {W : World} (h : laidMetH Tryz.prog Rows.parseOnceRow.laid W) : AF W := by
 have h1 : laidMet Tryz.prog Rows.parseOnceRow.laid W := h
 exact Lib.tabIs_of_head (t := 187) (e := 5) (n := 256) (by kernel_rfl : Tryz.prog.globalNamed "strings.asciiSpace" = some 0) (by kernel_rfl) (by kernel_rfl) (by kernel_rfl) (by kernel_rfl) (by kernel_rfl) (laidMet.tail (laidMet.tail h1))
theorem Zhf {W : World} (h : AF W) : Pers noX W AF := fun w' hk =>
 Joins.tab_stays (by kernel_rfl : Tryz.prog.globalNamed "strings.asciiSpace" = some 0) h hk.below (Nat.le_refl _)
end Go.Proofs.YtbedigkncjbggaaGreatDoor
set_option maxRecDepth 100000
namespace Go.Proofs.YtbedigkncjbggaaGreatDoor
open Go Go.Vc Go.ChangeShapes Go.WideShapes Go.ChangeAt Go.RowKit
open Go.ChangeMaps (open_string)
theorem Z9y (os : Os) (args : Array Value) : laidMet Tryz.prog Rows.parsePartsRow.laid (LW os args) := ZeA os args
theorem Z8m (os : Os) {H : Type} (enc : TypeId × Value → H) :
  (OpenSpec.ofChange Rows.parsePartsSpec).preRow enc Tryz.prog Tryz.f4 Rows.parsePartsRow.domain false Rows.parsePartsRow.laid (LW os #[.string ⟨#[]⟩]) #[.string ⟨#[]⟩] := by
 have hw : (DataW.whole enc Tryz.prog (LW os #[.string ⟨#[]⟩]) Tryz.f4.params.toList Rows.parsePartsSpec.vars false (#[.string ⟨#[]⟩] : Array Value).toList 8).map (fun x => (x.1, x.2.1)) = some ([.lit (.string [])], []) := by kernel_rfl
 obtain ⟨⟨x1, x2, x3⟩, hx, hx1⟩ := Option.map_eq_some_iff.1 hw
 simp only [Prod.mk.injEq] at hx1
 obtain ⟨rfl, rfl⟩ := hx1
 exact OpenSpec.preRow_of_cond 8 hx (by kernel_rfl) (fun k hk => by cases hk) (by kernel_rfl) (Z9y os _)
set_option maxHeartbeats 2000000 in
theorem Z8L (os : Os) (started : os.Started) (H : Type) (enc : TypeId × Value → H) (F : Stop.Interp) :
    ReturnsInHanded {} Tryz.checked os 4 .any ((OpenSpec.ofChange Rows.parsePartsSpec).preRow enc Tryz.prog Tryz.f4 Rows.parsePartsRow.domain false Rows.parsePartsRow.laid) (((OpenSpec.ofChange Rows.parsePartsSpec).at F).post enc Tryz.prog Tryz.f4 false true false false) := by
  refine returnsInHanded_of_row (C := Tryz.checked) (s := OpenSpec.ofChange Rows.parsePartsSpec) own started (by kernel_rfl) Tryz.func4
    (witness_row_atRef (enc := enc) (C := Tryz.checked) false (laidWorld os) #[.string ⟨#[]⟩] rfl (by kernel_rfl) (by kernel_rfl) (by kernel_rfl) (Z8m os enc)) ?_
  intro W base args ds gs before hval0 hW _ _ hsz0 hL hsh _
  have hW' := hW
  obtain ⟨p, q, hA0, hV, rfl, hfz, hnd⟩ := hW
  have hA : DataW.TrodAll enc Tryz.prog W 0 (fun _ => true) true [ZN] args.toList ds p := hA0
  have hgf := ZhD (ZfO hsh)
  have haf := Zhf (ZhC hL)
  obtain ⟨v0, d0, rfl, rfl, h0⟩ := trodAll_one hA
  obtain ⟨rfl, rfl⟩ := trodVars_none hV
  obtain ⟨s, rfl, rfl, rfl, _⟩ := open_string Zl (hval0 0 ZN v0 rfl rfl) h0
  have hsz : (DataW.weightsEach (H := H) Tryz.prog [ZN] [.lit (.string s.data.toList)]).all (· ≤ reachBytes) = true := hsz0
  refine ((Z8s s (by exact size1 hsz)).calls noX W [.string s] (fun _ h => h.elim) (fun F hF => by rcases Mc.1 hF with rfl | hF; exact fun w' _ => Nat.zero_le _; rcases Mc.1 hF with rfl | hF; exact hgf; rcases Mc.1 hF with rfl | hF; exact haf; cases hF) ⟨rfl, trivial⟩).mono fun e W' ⟨v, he, hk, hR⟩ => ?_
  subst he
  have hR' : v = .bool true := hR
  subst hR'
  exact ⟨_, rfl, ZfW (f := Tryz.f4) (s := Rows.parsePartsSpec) (tB := Zdy) laidOut (mem1 ZfS) (by kernel_rfl) (by kernel_rfl) rfl rfl rfl rfl hW' hk⟩
theorem Z9O : Rows.ParsePartsSaid :=
 OpenClaim.holds_of_cond 4 Tryz.f4 rfl rfl rfl rfl rfl rfl rfl ⟨rfl, rfl, rfl, rfl, rfl⟩ rfl rfl rfl rfl rfl (by kernel_rfl) Tryz.func4 (by kernel_rfl)
  (of_decide_eq_true (by kernel_rfl)) (by unfold Func.isWrapper; first | (rw [if_pos (by decide +kernel)]; kernel_rfl) | (rw [if_neg (by decide +kernel)]; exact ⟨rfl, rfl⟩))
  (fun os started H enc _ F => by rw [OpenClaim.pre_eq_preRow]; exact Z8L os started H enc F)
theorem Z9a (f : FuncId) (fn : Func) (hf : Tryz.pinned.checked.prog.funcNamed "cadastre/cadastrelaw10.ParseParts" = some f) (hfn : Tryz.pinned.checked.prog.funcs[f]? = some fn) :
  true = Tryz.pinned.checked.prog.looks [] ∧ ∀ (j : Nat) t, fn.params[j]? = some t → Tryz.pinned.checked.prog.wantsStandIn t = false := by
 obtain rfl : f = 4 := Option.some.inj ((show Tryz.prog.funcNamed "cadastre/cadastrelaw10.ParseParts" = some 4 by kernel_rfl).symm.trans hf) |>.symm
 obtain rfl : fn = Tryz.f4 := (Option.some.inj (Tryz.func4.symm.trans hfn)).symm
 refine ⟨by kernel_rfl, fun j t ht => ?_⟩
 have hp : Tryz.f4.params = #[ZN] := by kernel_rfl
 rw [hp] at ht
 obtain rfl : t = ZN := by simpa using Array.mem_of_getElem? ht
 exact (show Tryz.prog.wantsStandIn ZN = false by kernel_rfl)
theorem parseParts_card : Rows.ParsePartsCardSaid :=
 Claim7.holds_tied_plain_at .later [] _ _ _ _ Z9O (fun _ h => by cases h) (by kernel_rfl) (fun _ h => by cases h) parseParts_row_tie rfl ⟨rfl, rfl⟩ (by kernel_rfl) rfl Z9a (by kernel_rfl)
#print axioms parseParts_card
end Go.Proofs.YtbedigkncjbggaaGreatDoor
