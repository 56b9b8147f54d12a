/- The scanner: texts. No condition. -/
import Derived.Test.YtbedigkncjbggaaGreatDoorXQ12
import Derived.Test.YtbedigkncjbggaaGreatDoorXG3
import Derived.Test.YtbedigkncjbggaaGreatDoorXQ10
import Derived.Test.YtbedigkncjbggaaGreatDoorXG7
set_option maxRecDepth 20000
namespace Go.Proofs.YtbedigkncjbggaaGreatDoor
open Go Go.Vc
theorem q39 (b : UInt8) : ((b.toNat : Int) == 39) = (b == 39) := by
  have h1 : (39 : UInt8).toNat = 39 := rfl
  refine Bool.eq_iff_iff.2 ⟨fun h => ?_, fun h => ?_⟩
  · have h : (b.toNat : Int) = 39 := by simpa using h
    have : b = 39 := UInt8.toNat_inj.1 (by rw [h1]; omega)
    simp [this]
  · have h : b = 39 := by simpa using h
    subst h
    rfl
theorem ZgO {s : ByteArray} {i : Nat} (h : s.size ≤ i) (acc : List UInt8) : textL (dr s i) acc = ((t3D, 30), 0) := by rw [Z76 h]; rfl
theorem Z2S (b : UInt8) (l acc : List UInt8) (hb : (b == 39) = false) : textL (b :: l) acc = ((textL l (acc ++ [b])).1, (textL l (acc ++ [b])).2 + 1) := by
 cases l with
 | nil => simp [textL, hb]
 | cons c l => rw [textL, if_neg (by rw [hb]; simp)]
theorem Zhi {s : ByteArray} {i : Nat} (h : i < s.size) (acc : List UInt8) (hb : (by_ s i == 39) = false) : textL (dr s i) acc = ((textL (dr s (i + 1)) (acc ++ [by_ s i])).1, (textL (dr s (i + 1)) (acc ++ [by_ s i])).2 + 1) := by
 rw [Z2A h, Z2S _ _ _ hb]
theorem Zgy {s : ByteArray} {i : Nat} (h : i + 1 < s.size) (acc : List UInt8) (hb : (by_ s i == 39) = true) (hc : (by_ s (i + 1) == 39) = true) :
  textL (dr s i) acc = ((textL (dr s (i + 1 + 1)) (acc ++ [by_ s (i + 1)])).1, (textL (dr s (i + 1 + 1)) (acc ++ [by_ s (i + 1)])).2 + 2) := by
 rw [Z2A (by omega : i < s.size), Z2A h, textL, if_pos hb, if_neg (by simp [bne, hc])]
theorem Zgn {s : ByteArray} {i : Nat} (h : i < s.size) (acc : List UInt8) (hb : (by_ s i == 39) = true) (hc : (((i + 1 : Nat) : Int) == (s.size : Int) || !(by_ s (i + 1) == 39)) = true) : textL (dr s i) acc = (endT acc, 1) := by
  by_cases h1 : i + 1 < s.size
  · have hc : (by_ s (i + 1) == 39) = false := by
      rw [beq_eq_false_iff_ne.2 (by omega), Bool.false_or] at hc
      simpa using hc
    rw [Z2A h, Z2A h1, textL, if_pos hb, if_pos (by simp [bne, hc])]
  · rw [Z2A h, Z76 (by omega), textL, if_pos hb]
theorem Z7s (s : ByteArray) (n : Nat) (hn : n < s.size) (hs : s.size ≤ 2048) : CallM Tryz.prog Z4v Z14 (sv s n) [GF] [] (sv s (n + 1 + (textL (dr s (n + 1)) []).2)) (.tup2 (.is (tv (textL (dr s (n + 1)) []).1.1)) (.is (.int .i64 (textL (dr s (n + 1)) []).1.2))) :=
CallM.of (fn := Tryz.f102) Tryz.func102 (n := 88) rfl rfl rfl (fun _ _ => by kernel_rfl) fun E W b0 => by
 repeat apply Sq
 apply Pn
 refine JO.alloc Z2e rfl fun b2 => ?_
 refine Jt (Z2 rfl) rfl ?_
 apply Ni
 repeat first | apply Nx | apply Nb
 refine Sl [0, 2] (.cons rfl (.cons rfl .nil)) ?_
 repeat apply Sq
 apply Pn
 refine Jt (Z2 rfl) rfl ?_
 apply Ni
 repeat first | apply Nx | apply Nb
 refine Sl [0, 2, 4] (.cons rfl (.cons rfl (.cons rfl .nil))) ?_
 repeat apply Sq
 apply Pn
 refine Jt (Z0 rfl) rfl ?_
 refine Jt (Z5 rfl) rfl ?_
 refine Jt (Z1 Zc rfl) rfl ?_
 refine Jt (Z4 ZA rfl rfl) rfl ?_
 refine Jt (ZB (cc := ((n + 1 : Nat) : Int)) rfl rfl (by omega) (by omega) (by omega)) rfl ?_
 refine Jt (Z5 rfl) rfl ?_
 refine Jt (Z1 Zc rfl) rfl ?_
 refine JO.m (Zf (cs' := [_, _]) rfl rfl (by repeat first | exact .here | apply Ut) rfl rfl rfl rfl Z38) (by rfl) ?_
 apply Ni
 repeat first | apply Nx | apply Nb
 refine Sl [0, 2, 4] (.cons rfl (.cons rfl (.cons rfl .nil))) ?_
 repeat apply Sq
 apply Bk
 repeat apply Sq
 refine J.loopG (α := Nat × List UInt8 × Option (Nat × List Value) × Nat) (fun z => [(0, .is (.pointer (some ⟨b0, 0, none⟩))), (2, .is (.pointer (some ⟨b2, 0, none⟩))), (4, .is (sliceO z.2.2.1 z.2.1.length z.2.2.2))]) (fun z => ⟨b2, Z22, .is (tv t3D)⟩ :: ⟨b0, Z14, .is (sv s z.1)⟩ :: ownO z.2.2.1 Z7J []) (fun z => fun _ => True) (fun z => z.1 ≤ s.size ∧ ((textL (dr s z.1) z.2.1).1 = (textL (dr s (n + 1)) []).1 ∧ z.1 + (textL (dr s z.1) z.2.1).2 = n + 1 + (textL (dr s (n + 1)) []).2) ∧ Grows bC 1 z.2.1 z.2.2.1 z.2.2.2 ∧ z.2.1.length ≤ z.1) (fun z => s.size - z.1) (n + 1, [], none, 0) [0, 2, 4] (.cons rfl (.cons rfl (.cons rfl .nil))) rfl (fun _ => trivial) ⟨by omega, ⟨rfl, rfl⟩, rfl, by simp⟩ fun ⟨i, acc, st, cp⟩ ⟨hi, ⟨hr1, hr2⟩, hG, hal⟩ => ?_
 try dsimp only
 try dsimp only at acc
 try dsimp only at st
 try dsimp only at cp
 try dsimp only at hi
 try dsimp only at hr1
 try dsimp only at hr2
 try dsimp only at hG
 try dsimp only at hal
 repeat apply Sq
 refine J.reg0 hmx (by kernel_rfl) (by kernel_rfl) ?_
 refine Rq (Z0 rfl) ?_
 refine Rq (Z5 rfl) ?_
 refine Rq (Z1 Zc rfl) ?_
 refine Rq (Z4 ZA rfl rfl) ?_
 refine Rq (Z0 rfl) ?_
 refine Rq (Z5 rfl) ?_
 refine Rq (Z1 ZD rfl) ?_
 refine Rq (Z4 Zu rfl rfl) ?_
 refine Rq (Z2Y Zl rfl) ?_
 refine Rq (Z1h rfl rfl) ?_
 apply Rn
 refine FinS.nil0 ?_
 repeat first | apply Nx | apply Nb
 refine Sl [0, 2, 4, 21] (.cons rfl (.cons rfl (.cons rfl (.cons rfl .nil)))) ?_
 repeat apply Sq
 refine Cd rfl (fun ht21 => ?_) (fun ht21 => ?_)
 ·
  try simp only [dT, dF] at ht21
  apply Sk
  repeat first | apply Nx | apply Nb
  repeat apply Sq
  apply Bk
  repeat apply Sq
  refine J.reg0 hmx (by kernel_rfl) (by kernel_rfl) ?_
  refine Rq (Z0 rfl) ?_
  refine Rq (Z5 rfl) ?_
  refine Rq (Z1 ZD rfl) ?_
  refine Rq (Z4 Zu rfl rfl) ?_
  refine Rq (Z0 rfl) ?_
  refine Rq (Z5 rfl) ?_
  refine Rq (Z1 Zc rfl) ?_
  refine Rq (Z4 ZA rfl rfl) ?_
  refine Rq (Z2P Zl rfl rfl (by omega) (by omega)) ?_
  refine Rq (Z1e rfl rfl) ?_
  apply Rn
  refine FinS.nil0 ?_
  repeat first | apply Nx | apply Nb
  refine Sl [0, 2, 4, 38] (.cons rfl (.cons rfl (.cons rfl (.cons rfl .nil)))) ?_
  repeat apply Sq
  refine Cd rfl (fun ht38 => ?_) (fun ht38 => ?_)
  ·
   try simp only [dT, dF] at ht38
   have hb39 : (by_ s i == 39) = true := (by rw [← q39]; first | exact ht38 | simpa using ht38)
   repeat apply Sq
   apply Pn
   refine Jt (Z0 rfl) rfl ?_
   refine Jt (Z5 rfl) rfl ?_
   refine Jt (Z1 Zc rfl) rfl ?_
   refine Jt (Z4 ZA rfl rfl) rfl ?_
   refine Jt (ZB (cc := ((i + 1 : Nat) : Int)) rfl rfl (by omega) (by omega) (by omega)) rfl ?_
   refine Jt (Z5 rfl) rfl ?_
   refine Jt (Z1 Zc rfl) rfl ?_
   refine JO.m (Zf (cs' := [_, _]) rfl rfl (by repeat first | exact .here | apply Ut) rfl rfl rfl rfl Z38) (by rfl) ?_
   apply Ni
   repeat first | apply Nx | apply Nb
   refine Sl [0, 2, 4] (.cons rfl (.cons rfl (.cons rfl .nil))) ?_
   repeat apply Sq
   refine J.reg0 hmx (by kernel_rfl) (by kernel_rfl) ?_
   refine Rq (Z0 rfl) ?_
   refine Rq (Z5 rfl) ?_
   refine Rq (Z1 Zc rfl) ?_
   refine Rq (Z4 ZA rfl rfl) ?_
   refine Rq (Z0 rfl) ?_
   refine Rq (Z5 rfl) ?_
   refine Rq (Z1 ZD rfl) ?_
   refine Rq (Z4 Zu rfl rfl) ?_
   refine Rq (Z2Y Zl rfl) ?_
   refine Rq (Z1e rfl rfl) ?_
   refine Rq (Z0 rfl) ?_
   refine Rg rfl rfl rfl (fun hg => Z0 (.inl rfl)) ?_
   refine Rg rfl rfl rfl (fun hg => Z5 (.inr ⟨_, rfl, id⟩)) ?_
   refine Rg rfl rfl rfl (fun hg => Z1 ZD (.inr ⟨_, rfl, id⟩)) ?_
   refine Rg rfl rfl rfl (fun hg => Z4 Zu (.inr ⟨_, rfl, id⟩) rfl) ?_
   refine Rg rfl rfl rfl (fun hg => Z0 (.inl rfl)) ?_
   refine Rg rfl rfl rfl (fun hg => Z5 (.inr ⟨_, rfl, id⟩)) ?_
   refine Rg rfl rfl rfl (fun hg => Z1 Zc (.inr ⟨_, rfl, id⟩)) ?_
   refine Rg rfl rfl rfl (fun hg => Z4 ZA (.inr ⟨_, rfl, id⟩) rfl) ?_
   refine Rg rfl rfl rfl (fun hg => Z2P Zl (.inr ⟨_, rfl, id⟩) (.inr ⟨_, rfl, id⟩) (by simp at hg; omega) (by simp at hg; omega)) ?_
   refine Rg rfl rfl rfl (fun hg => Z1J (.inr ⟨_, rfl, id⟩) (.inl rfl)) ?_
   refine Rq (ZM rfl rfl rfl id) ?_
   apply Rn
   refine FinS.nil0 ?_
   repeat first | apply Nx | apply Nb
   refine Sl [0, 2, 4, 67] (.cons rfl (.cons rfl (.cons rfl (.cons rfl .nil)))) ?_
   repeat apply Sq
   refine Cd rfl (fun ht67 => ?_) (fun ht67 => ?_)
   ·
    try simp only [dT, dF] at ht67
    have htx := Zgn (by omega) acc hb39 (show (((i + 1 : Nat) : Int) == (s.size : Int) || !(by_ s (i + 1) == 39)) = true by rw [← q39]; exact ht67)
    rw [htx] at hr1 hr2
    refine J.freezeOM Z5k hG (e := Z7J) (by repeat first | exact .here | apply Tl.past | apply Tl.there) (fun q h => ⟨_, List.mem_cons_of_mem _ List.mem_cons_self, h.symm⟩) rfl rfl ?_
    obtain ⟨cap2, hso⟩ := ZaC hG
    rw [hso]
    repeat apply Sq
    apply Pn
    refine Jt (Z0 rfl) rfl ?_
    refine Jt (Zq Z1Q rfl) rfl ?_
    refine Jt (Z2O rfl rfl) rfl ?_
    apply Ni
    repeat first | apply Nx | apply Nb
    refine Sl [2, 4, 70] (.cons rfl (.cons rfl (.cons rfl .nil))) ?_
    repeat apply Sq
    refine Cd rfl (fun ht70 => ?_) (fun ht70 => ?_)
    ·
     try simp only [dT, dF] at ht70
     repeat apply Sq
     apply Pn
     refine Jt (Zv (cs := [_, _, _]) Z1k .nil rfl rfl) rfl ?_
     refine JO.m (Z3 rfl rfl (by repeat first | exact .here | apply Ut) (by first | exact cI rfl rfl | exact cE) (by first | exact cI rfl rfl | exact cE | exact cO) Z17) (by rfl) ?_
     refine Jt (Z2 rfl) rfl ?_
     apply Ni
     repeat first | apply Nx | apply Nb
     refine Sl [2, 3] (.cons rfl (.cons rfl .nil)) ?_
     repeat apply Sq
     apply Rt
     repeat first | apply Rp | apply Rb
     exact JX.retMC1is rfl HasOwn.mem rfl ZW HasOwn.mem rfl rfl (by rw [← hr1]; unfold endT; rw [if_pos (decide_eq_true ht70)]; rfl) (by rw [← hr1]; unfold endT; rw [if_pos (decide_eq_true ht70)]) (by rw [← hr2])
    ·
     try simp only [dT, dF] at ht70
     apply Sk
     repeat first | apply Nx | apply Nb
     repeat apply Sq
     apply Pn
     refine Jt (Z0 rfl) rfl ?_
     refine Jt (Zfu Z1Q Z7x Zl rfl (by repeat first | exact Mh | apply Mt)) rfl ?_
     refine Jt (Zv (cs := [_, _, _]) Z1k (.cons rfl (.cons rfl .nil)) rfl rfl) rfl ?_
     refine JO.m (Z3 rfl rfl (by repeat first | exact .here | apply Ut) (by first | exact cI rfl rfl | exact cE) (by first | exact cI rfl rfl | exact cE | exact cO) Z17) (by rfl) ?_
     refine Jt (Z2 rfl) rfl ?_
     apply Ni
     repeat first | apply Nx | apply Nb
     refine Sl [2, 3] (.cons rfl (.cons rfl .nil)) ?_
     repeat apply Sq
     apply Rt
     repeat first | apply Rp | apply Rb
     exact JX.retMC1is rfl HasOwn.mem rfl ZW HasOwn.mem rfl rfl (by rw [← hr1]; unfold endT; rw [if_neg (by rw [decide_eq_false ht70]; simp)]) (by rw [← hr1]; unfold endT; rw [if_neg (by rw [decide_eq_false ht70]; simp)]) (by rw [← hr2])
   ·
    try simp only [dT, dF] at ht67
    apply Sk
    repeat first | apply Nx | apply Nb
    have hlt2 : i + 1 < s.size := (by have h := ht67; simp only [Bool.or_eq_false_iff, beq_eq_false_iff_ne] at h; omega)
    have hc39 : (by_ s (i + 1) == 39) = true := (by have h := (Bool.or_eq_false_iff.1 ht67).2; rw [← q39]; exact (show (sb s (i + 1) == 39) = true by simpa using h))
    repeat apply Sq
    refine J.regS 11 hmx (by kernel_rfl) (by kernel_rfl) ?_
    refine Rq (Z0 rfl) ?_
    refine Rq (Z0 rfl) ?_
    refine Rq (Z5 rfl) ?_
    refine Rq (Z1 ZD rfl) ?_
    refine Rq (Z4 Zu rfl rfl) ?_
    refine Rq (Z0 rfl) ?_
    refine Rq (Z5 rfl) ?_
    refine Rq (Z1 Zc rfl) ?_
    refine Rq (Z4 ZA rfl rfl) ?_
    refine Rq (Z2P Zl rfl rfl (by omega) (by omega)) ?_
    refine Rq (ZF (cs := [_]) Z3m (by omega) (by omega) (.cons rfl .nil) rfl rfl rfl) ?_
    apply Rn
    refine FinS.tail0 ?_
    refine JO.apP [by_ s (i + 1)] Z3p Z5k (by repeat (first | exact .here | apply Cx.past | apply Cx.there)) hG rfl rfl (fun L => Z4c Z1Q rfl rfl) (by simp) (by simp; omega) (by simp; omega) rfl (fun st1 cp1 hG1 => ?_)
    try dsimp only
    refine Jt (Z2 rfl) rfl ?_
    apply Ni
    repeat first | apply Nx | apply Nb
    refine Sl [0, 2, 4] (.cons rfl (.cons rfl (.cons rfl .nil))) ?_
    repeat apply Sq
    apply Pn
    refine Jt (Z0 rfl) rfl ?_
    refine Jt (Z5 rfl) rfl ?_
    refine Jt (Z1 Zc rfl) rfl ?_
    refine Jt (Z4 ZA rfl rfl) rfl ?_
    refine Jt (ZB (cc := ((i + 1 + 1 : Nat) : Int)) rfl rfl (by omega) (by omega) (by omega)) rfl ?_
    refine Jt (Z5 rfl) rfl ?_
    refine Jt (Z1 Zc rfl) rfl ?_
    refine JO.m (Zf (cs' := [_, _]) rfl rfl (by repeat first | exact .here | apply Ut) rfl rfl rfl rfl Z38) (by rfl) ?_
    apply Ni
    repeat refine JX.normal_block ?_
    refine JX.roundG (x := ⟨i, acc, st, cp⟩) (i + 1 + 1, acc ++ [by_ s (i + 1)], st1, cp1) ?_ ?_ [0, 2, 4] ?_ ?_ ?_ ?_
    · exact ⟨by omega, by have h := Zgy hlt2 acc hb39 hc39; rw [h] at hr1 hr2; exact ⟨hr1, (by dsimp only; omega)⟩, hG1, by simp; omega⟩
    · exact (by simp only; omega)
    · exact (.cons rfl (.cons rfl (.cons rfl .nil)))
    · repeat (first | exact .all | exact .nil | refine Has.own (by repeat first | exact .here | apply Tl.past | apply Tl.there) ?_ | refine Has.cons (by repeat (first | exact .here | apply Pk.past | apply Pk.there)) ?_)
    · exact fun G hG => by repeat (first | exact hG | refine List.mem_cons_of_mem _ ?_)
    · exact fun _ _ _ => fun _ _ => trivial
  ·
   try simp only [dT, dF] at ht38
   apply Sk
   repeat first | apply Nx | apply Nb
   have hb39 : (by_ s i == 39) = false := (by rw [← q39]; first | exact ht38 | simpa using ht38)
   repeat apply Sq
   refine J.regS 11 hmx (by kernel_rfl) (by kernel_rfl) ?_
   refine Rq (Z0 rfl) ?_
   refine Rq (Z0 rfl) ?_
   refine Rq (Z5 rfl) ?_
   refine Rq (Z1 ZD rfl) ?_
   refine Rq (Z4 Zu rfl rfl) ?_
   refine Rq (Z0 rfl) ?_
   refine Rq (Z5 rfl) ?_
   refine Rq (Z1 Zc rfl) ?_
   refine Rq (Z4 ZA rfl rfl) ?_
   refine Rq (Z2P Zl rfl rfl (by omega) (by omega)) ?_
   refine Rq (ZF (cs := [_]) Z3m (by omega) (by omega) (.cons rfl .nil) rfl rfl rfl) ?_
   apply Rn
   refine FinS.tail0 ?_
   refine JO.apP [by_ s i] Z3p Z5k (by repeat (first | exact .here | apply Cx.past | apply Cx.there)) hG rfl rfl (fun L => Z4c Z1Q rfl rfl) (by simp) (by simp; omega) (by simp; omega) rfl (fun st1 cp1 hG1 => ?_)
   try dsimp only
   refine Jt (Z2 rfl) rfl ?_
   apply Ni
   repeat first | apply Nx | apply Nb
   refine Sl [0, 2, 4] (.cons rfl (.cons rfl (.cons rfl .nil))) ?_
   repeat apply Sq
   apply Pn
   refine Jt (Z0 rfl) rfl ?_
   refine Jt (Z5 rfl) rfl ?_
   refine Jt (Z1 Zc rfl) rfl ?_
   refine Jt (Z4 ZA rfl rfl) rfl ?_
   refine Jt (ZB (cc := ((i + 1 : Nat) : Int)) rfl rfl (by omega) (by omega) (by omega)) rfl ?_
   refine Jt (Z5 rfl) rfl ?_
   refine Jt (Z1 Zc rfl) rfl ?_
   refine JO.m (Zf (cs' := [_, _]) rfl rfl (by repeat first | exact .here | apply Ut) rfl rfl rfl rfl Z38) (by rfl) ?_
   apply Ni
   repeat refine JX.normal_block ?_
   refine JX.roundG (x := ⟨i, acc, st, cp⟩) (i + 1, acc ++ [by_ s i], st1, cp1) ?_ ?_ [0, 2, 4] ?_ ?_ ?_ ?_
   · exact ⟨by omega, by have h := Zhi (by omega) acc hb39; rw [h] at hr1 hr2; exact ⟨hr1, (by dsimp only; omega)⟩, hG1, by simp; omega⟩
   · exact (by simp only; omega)
   · exact (.cons rfl (.cons rfl (.cons rfl .nil)))
   · repeat (first | exact .all | exact .nil | refine Has.own (by repeat first | exact .here | apply Tl.past | apply Tl.there) ?_ | refine Has.cons (by repeat (first | exact .here | apply Pk.past | apply Pk.there)) ?_)
   · exact fun G hG => by repeat (first | exact hG | refine List.mem_cons_of_mem _ ?_)
   · exact fun _ _ _ => fun _ _ => trivial
 ·
  try simp only [dT, dF] at ht21
  repeat apply Sq
  refine J.exit ?_
  repeat first | refine Ht ?_ | refine Ms rfl ?_ | refine Ep ?_
  repeat first | apply Nx | apply Nb
  rw [ZgO (by omega) acc] at hr1 hr2
  repeat apply Sq
  apply Pn
  refine Jt (Zv (cs := [_, _, _]) Z1k .nil rfl rfl) rfl ?_
  refine JO.m (Z3 rfl rfl (by repeat first | exact .here | apply Ut) (by first | exact cI rfl rfl | exact cE) (by first | exact cI rfl rfl | exact cE | exact cO) Z17) (by rfl) ?_
  refine Jt (Z2 rfl) rfl ?_
  apply Ni
  repeat first | apply Nx | apply Nb
  refine Sl [2, 3] (.cons rfl (.cons rfl .nil)) ?_
  repeat apply Sq
  apply Rt
  repeat first | apply Rp | apply Rb
  exact JX.retMC1is rfl HasOwn.mem rfl ZW HasOwn.mem rfl rfl (by rw [← hr1]; rfl) (by rw [← hr1]) (by rw [← hr2]; rfl)
end Go.Proofs.YtbedigkncjbggaaGreatDoor
set_option maxRecDepth 20000
namespace Go.Proofs.YtbedigkncjbggaaGreatDoor
open Go Go.Vc
theorem Z9n : ∀ (l acc : List UInt8), (textL l acc).2 ≤ l.length
  | [], _ => by simp [textL]
  | [b], acc => by
    unfold textL
    split <;> simp
  | b :: c :: l, acc => by
    have h1 := Z9n l (acc ++ [c])
    have h2 := Z9n (c :: l) (acc ++ [b])
    unfold textL
    split
    · split
      · simp
      · simp only [List.length_cons]; omega
    · simp only [List.length_cons] at h2 ⊢; omega
theorem ZgH (l : List UInt8) : (signL l).2 ≤ l.length := by
  unfold signL tryL
  split
  · rename_i h
    simp only [Bool.and_eq_true, decide_eq_true_eq] at h
    exact h.1
  · split
    · rename_i h
      simp only [Bool.and_eq_true, decide_eq_true_eq] at h
      exact h.1
    · exact Nat.zero_le _
theorem Z8B (l : List UInt8) : (stepL l).2 ≤ l.length := by
  cases l with
  | nil => exact Nat.zero_le _
  | cons b l =>
    rw [stepL]
    split
    · exact Z51 _ _
    · split
      · exact Z51 _ _
      · split
        · have := Z9n l []
          simp only [List.length_cons]
          omega
        · exact ZgH _
theorem Z7K {b : UInt8} {l : List UInt8} (h : (stepL (b :: l)).1.2 = 0) : 1 ≤ (stepL (b :: l)).2 := by
  rw [stepL] at h ⊢
  by_cases h1 : letB b = true
  · rw [if_pos h1]
    have : wordB b = true := by unfold wordB; rw [h1]; rfl
    show 1 ≤ runN wordB (b :: l)
    unfold runN
    rw [if_pos this]
    omega
  rw [if_neg h1] at h ⊢
  by_cases h2 : digB b = true
  · rw [if_pos h2]
    show 1 ≤ runN digB (b :: l)
    unfold runN
    rw [if_pos h2]
    omega
  rw [if_neg h2] at h ⊢
  by_cases h3 : (b == 39) = true
  · rw [if_pos h3]
    exact Nat.le_add_left _ _
  rw [if_neg h3] at h ⊢
  unfold signL at h ⊢
  split at h
  · rename_i h4; rw [if_pos h4]; exact Nat.le_of_ble_eq_true rfl
  · rename_i h4
    rw [if_neg h4]
    split at h
    · rename_i h5; rw [if_pos h5]; exact Nat.le_refl _
    · cases h
theorem Z89 : ∀ (f g : Nat) (l : List UInt8), l.length < f → l.length < g → allG f l = allG g l
  | 0, _, _, h, _ => absurd h (by omega)
  | _ + 1, 0, _, _, h => absurd h (by omega)
  | f + 1, g + 1, l, hf, hg => by
    unfold allG
    cases hd : l.drop (runN isSp l) with
    | nil => rfl
    | cons b r =>
      dsimp only
      have hl : (b :: r).length ≤ l.length := by rw [← hd, List.length_drop]; omega
      by_cases he : (stepL (b :: r)).1.2 = 0
      · have hp := Z7K he
        have hle := Z8B (b :: r)
        have := Z89 f g ((b :: r).drop (stepL (b :: r)).2) (by rw [List.length_drop]; omega) (by rw [List.length_drop]; omega)
        rw [this]
      · rw [if_pos (by simpa using he), if_pos (by simpa using he)]
def allA (l : List UInt8) : List T3 × Int := allG (l.length + 1) l
def finA (xs : List T3) (r : List T3 × Int) : List T3 × Int := if (r.2 != 0) then ([], r.2) else (xs ++ r.1, 0)
theorem ZgL : allA [] = ([], 0) := rfl
theorem Z3N (l : List UInt8) : allA (l.drop (runN isSp l)) = allA l := by
  have h1 : ∀ l : List UInt8, runN isSp (l.drop (runN isSp l)) = 0 := fun l => by
    induction l with
    | nil => rfl
    | cons b l ih =>
      by_cases hb : isSp b = true
      · have : runN isSp (b :: l) = runN isSp l + 1 := by rw [runN, if_pos hb]
        rw [this, List.drop_succ_cons]
        exact ih
      · have : runN isSp (b :: l) = 0 := by rw [runN, if_neg hb]
        rw [this, List.drop_zero]
        exact this
  unfold allA
  rw [Z89 ((l.drop (runN isSp l)).length + 1) (l.length + 1) _ (by omega) (by rw [List.length_drop]; omega)]
  show allG (l.length + 1) (l.drop (runN isSp l)) = allG (l.length + 1) l
  rw [allG, allG, h1 l, List.drop_zero]
theorem ZdD (l : List UInt8) : runN isSp (l.drop (runN isSp l)) = 0 := by
  induction l with
  | nil => rfl
  | cons b l ih =>
    by_cases hb : isSp b = true
    · have : runN isSp (b :: l) = runN isSp l + 1 := by rw [runN, if_pos hb]
      rw [this, List.drop_succ_cons]
      exact ih
    · have : runN isSp (b :: l) = 0 := by rw [runN, if_neg hb]
      rw [this, List.drop_zero]
      exact this
theorem Z6r {l : List UInt8} (h0 : runN isSp l = 0) (hl : l ≠ []) :
    allA l = if ((stepL l).1.2 != 0) then ([], (stepL l).1.2) else finA [(stepL l).1.1] (allA (l.drop (stepL l).2)) := by
  cases l with
  | nil => exact absurd rfl hl
  | cons b r =>
    have e : allA (b :: r) = allG ((b :: r).length + 1) (b :: r) := rfl
    rw [e, allG, h0, List.drop_zero]
    dsimp only
    by_cases he : (stepL (b :: r)).1.2 = 0
    · have hb : ((stepL (b :: r)).1.2 != 0) = false := by simp [he]
      rw [hb]
      simp only [Bool.false_eq_true, if_false]
      have hp := Z7K he
      have hle := Z8B (b :: r)
      rw [Z89 (b :: r).length (((b :: r).drop (stepL (b :: r)).2).length + 1) _ (by rw [List.length_drop]; omega) (by omega)]
      rfl
    · rw [if_pos (by simpa using he), if_pos (by simpa using he)]
theorem Zbr (xs ys : List T3) (r : List T3 × Int) : finA xs (finA ys r) = finA (xs ++ ys) r := by
  unfold finA
  by_cases h : (r.2 != 0) = true
  · rw [if_pos h, if_pos h]; simp only; rw [if_pos h]
  · rw [if_neg h, if_neg h]
    simp
theorem ZgQ : ∀ (f : Nat) (l : List UInt8), (allG f l).2 ≠ 0 → (allG f l).1 = []
  | 0, _, h => absurd rfl h
  | f + 1, l, h => by
    unfold allG at h ⊢
    cases hd : l.drop (runN isSp l) with
    | nil => rfl
    | cons b r =>
      rw [hd] at h
      dsimp only at h ⊢
      split at h
      · rename_i h1; rw [if_pos h1]
      · rename_i h1
        rw [if_neg h1]
        split at h
        · rename_i h2; rw [if_pos h2]
        · exact absurd rfl h
theorem ZbA (l : List UInt8) : finA [] (allA l) = allA l := by
  unfold finA
  by_cases h : ((allA l).2 != 0) = true
  · rw [if_pos h]
    have h2 : (allA l).2 ≠ 0 := by simpa using h
    have := ZgQ _ _ h2
    exact Prod.ext this.symm rfl
  · rw [if_neg h]
    have : (allA l).2 = 0 := by simpa using h
    exact Prod.ext rfl this.symm
theorem Zfy {s : ByteArray} (h : s.size ≤ 2048) : finA [] (allA (dr s (0 + runN isSp (dr s 0)))) = lexL s.data.toList := by
 rw [ZbA, ← Z7f, Z3N]
 unfold lexL
 rw [if_neg (by rw [Z1w]; simp; omega)]
 rfl
theorem ZfV (s : ByteArray) (i : Nat) : runN isSp (dr s (i + runN isSp (dr s i))) = 0 := by
 rw [← Z7f]
 exact ZdD _
theorem Zh9 {s : ByteArray} {i : Nat} (h : i < s.size) : dr s i ≠ [] := by rw [Z2A h]; simp
theorem ZgW {s : ByteArray} {i : Nat} {xs : List T3} {X : List T3 × Int} (h : i < s.size) (hsp : runN isSp (dr s i) = 0) (he : (stepL (dr s i)).1.2 = 0) (hr : finA xs (allA (dr s i)) = X) :
  finA (xs ++ [(stepL (dr s i)).1.1]) (allA (dr s (i + (stepL (dr s i)).2 + runN isSp (dr s (i + (stepL (dr s i)).2))))) = X := by
 rw [← Z7f s (i + (stepL (dr s i)).2), Z3N, ← Z7f s i, ← Zbr, ← hr, Z6r hsp (Zh9 h), if_neg (by simp [he])]
theorem Zhm {s : ByteArray} {i : Nat} {xs : List T3} {X : List T3 × Int} (h : i < s.size) (hsp : runN isSp (dr s i) = 0) (he : (stepL (dr s i)).1.2 ≠ 0) (hr : finA xs (allA (dr s i)) = X) : X = ([], (stepL (dr s i)).1.2) := by
 rw [← hr, Z6r hsp (Zh9 h), if_pos (by simpa using he)]
 unfold finA
 rw [if_pos (by simpa using he)]
def takeV (x : UInt8) (b : Nat) : Value := .func (.func (if letB x then Z4H else if digB x then Z3W else if x == 39 then Z4v else Z4I)) #[.pointer (some ⟨b, 0, none⟩)] #[]
theorem ZeE (s : ByteArray) (n : Nat) (hn : n < s.size) (hs : s.size ≤ 2048) (b : Nat) :
    MethV Tryz.prog b (takeV (by_ s n) b) Z14 (sv s n) [GF] [] (sv s (n + (stepL (dr s n)).2)) (.tup2 (.is (tv (stepL (dr s n)).1.1)) (.is (.int .i64 (stepL (dr s n)).1.2))) := by
  have e := Z2A hn
  unfold takeV
  by_cases h1 : letB (by_ s n) = true
  · rw [if_pos h1]
    have hst : stepL (dr s n) = (wordL ((dr s n).take (runN wordB (dr s n))), runN wordB (dr s n)) := by
      rw [e, stepL, if_pos h1]
    rw [hst]
    exact ⟨_, rfl, Z7r s n hn hs⟩
  rw [if_neg h1]
  by_cases h2 : digB (by_ s n) = true
  · rw [if_pos h2]
    have hst : stepL (dr s n) = (numL (dr s n), runN digB (dr s n)) := by
      rw [e, stepL, if_neg h1, if_pos h2]
    rw [hst]
    exact ⟨_, rfl, Z6P s n hn hs⟩
  rw [if_neg h2]
  by_cases h3 : (by_ s n == 39) = true
  · rw [if_pos h3]
    have hst : stepL (dr s n) = ((textL (dr s (n + 1)) []).1, (textL (dr s (n + 1)) []).2 + 1) := by
      rw [e, stepL, if_neg h1, if_neg h2, if_pos h3]
    rw [hst]
    have := Z7s s n hn hs
    rw [show n + 1 + (textL (dr s (n + 1)) []).2 = n + ((textL (dr s (n + 1)) []).2 + 1) by omega] at this
    exact ⟨_, rfl, this⟩
  rw [if_neg h3]
  have hst : stepL (dr s n) = signL (dr s n) := by
    rw [e, stepL, if_neg h1, if_neg h2, if_neg h3]
  rw [hst]
  exact ⟨_, rfl, Z7B s n hn hs⟩
end Go.Proofs.YtbedigkncjbggaaGreatDoor
set_option maxRecDepth 20000
namespace Go.Proofs.YtbedigkncjbggaaGreatDoor
open Go Go.Vc
theorem Z7z (s : ByteArray) (n : Nat) (hn : n < s.size) : CallMR Tryz.prog Z7o Z14 (sv s n) [GF] [] (sv s n) (fun b => .is (takeV (by_ s n) b)) :=
CallMR.of (fn := Tryz.f57) Tryz.func57 (n := 30) rfl rfl rfl (fun _ _ => by kernel_rfl) fun E W b0 => by
 repeat apply Sq
 apply Pn
 refine Jt (Z2 rfl) rfl ?_
 apply Ni
 repeat first | apply Nx | apply Nb
 refine Sl [0] (.cons rfl .nil) ?_
 repeat apply Sq
 refine J.reg0 hmx (by kernel_rfl) (by kernel_rfl) ?_
 refine Rq (Z0 rfl) ?_
 refine Rq (Z5 rfl) ?_
 refine Rq (Z1 ZD rfl) ?_
 refine Rq (Z4 Zu rfl rfl) ?_
 refine Rq (Z0 rfl) ?_
 refine Rq (Z5 rfl) ?_
 refine Rq (Z1 Zc rfl) ?_
 refine Rq (Z4 ZA rfl rfl) ?_
 refine Rq (Z2P Zl rfl rfl (by omega) (by omega)) ?_
 refine Rq (Z2 rfl) ?_
 apply Rn
 refine FinS.nil0 ?_
 repeat first | apply Nx | apply Nb
 refine Sl [0, 3] (.cons rfl (.cons rfl .nil)) ?_
 repeat apply Sq
 apply Bk
 repeat apply Sq
 apply Pn
 refine Jt (Z0 rfl) rfl ?_
 refine Jt (ZK rfl (Z5N (sb s n)) (.one rfl .nil)) rfl ?_
 refine Jt (Z2 rfl) rfl ?_
 apply Ni
 repeat first | apply Nx | apply Nb
 refine Sl [0, 3, 13] (.cons rfl (.cons rfl (.cons rfl .nil))) ?_
 repeat apply Sq
 refine Cd rfl (fun ht13 => ?_) (fun ht13 => ?_)
 ·
  try simp only [dT, dF] at ht13
  repeat apply Sq
  apply Pn
  refine Jt (Z0 rfl) rfl ?_
  refine Jt (Z2U (.cons rfl .nil) .nil) rfl ?_
  refine Jt (Z2 rfl) rfl ?_
  apply Ni
  repeat first | apply Nx | apply Nb
  refine Sl [2] (.cons rfl .nil) ?_
  repeat apply Sq
  apply Rt
  repeat first | apply Rp | apply Rb
  exact JX.retM1e rfl HasOwn.mem rfl (by unfold takeV; rw [if_pos (show letB (by_ s n) = true from ht13)]) (by rfl)
 ·
  try simp only [dT, dF] at ht13
  repeat apply Sq
  apply Pn
  refine Jt (Z0 rfl) rfl ?_
  refine Jt (ZK rfl (Z6J (sb s n)) (.one rfl .nil)) rfl ?_
  refine Jt (Z2 rfl) rfl ?_
  apply Ni
  repeat first | apply Nx | apply Nb
  refine Sl [0, 3, 18] (.cons rfl (.cons rfl (.cons rfl .nil))) ?_
  repeat apply Sq
  refine Cd rfl (fun ht18 => ?_) (fun ht18 => ?_)
  ·
   try simp only [dT, dF] at ht18
   repeat apply Sq
   apply Pn
   refine Jt (Z0 rfl) rfl ?_
   refine Jt (Z2U (.cons rfl .nil) .nil) rfl ?_
   refine Jt (Z2 rfl) rfl ?_
   apply Ni
   repeat first | apply Nx | apply Nb
   refine Sl [2] (.cons rfl .nil) ?_
   repeat apply Sq
   apply Rt
   repeat first | apply Rp | apply Rb
   exact JX.retM1e rfl HasOwn.mem rfl (by unfold takeV; rw [if_neg (show ¬ letB (by_ s n) = true by rw [show letB (by_ s n) = false from ht13]; simp), if_pos (show digB (by_ s n) = true from ht18)]) (by rfl)
  ·
   try simp only [dT, dF] at ht18
   repeat apply Sq
   apply Pn
   refine Jt (Z0 rfl) rfl ?_
   refine Jt (Z1e rfl rfl) rfl ?_
   refine Jt (Z2 rfl) rfl ?_
   apply Ni
   repeat first | apply Nx | apply Nb
   refine Sl [0, 23] (.cons rfl (.cons rfl .nil)) ?_
   repeat apply Sq
   refine Cd rfl (fun ht23 => ?_) (fun ht23 => ?_)
   ·
    try simp only [dT, dF] at ht23
    repeat apply Sq
    apply Pn
    refine Jt (Z0 rfl) rfl ?_
    refine Jt (Z2U (.cons rfl .nil) .nil) rfl ?_
    refine Jt (Z2 rfl) rfl ?_
    apply Ni
    repeat first | apply Nx | apply Nb
    refine Sl [2] (.cons rfl .nil) ?_
    repeat apply Sq
    apply Rt
    repeat first | apply Rp | apply Rb
    exact JX.retM1e rfl HasOwn.mem rfl (by unfold takeV; rw [if_neg (show ¬ letB (by_ s n) = true by rw [show letB (by_ s n) = false from ht13]; simp), if_neg (show ¬ digB (by_ s n) = true by rw [show digB (by_ s n) = false from ht18]; simp), if_pos (by rw [← q39]; exact ht23)]) (by rfl)
   ·
    try simp only [dT, dF] at ht23
    apply Sk
    repeat first | apply Nx | apply Nb
    repeat apply Sq
    apply Pn
    refine Jt (Z0 rfl) rfl ?_
    refine Jt (Z2U (.cons rfl .nil) .nil) rfl ?_
    refine Jt (Z2 rfl) rfl ?_
    apply Ni
    repeat first | apply Nx | apply Nb
    refine Sl [2] (.cons rfl .nil) ?_
    repeat apply Sq
    apply Rt
    repeat first | apply Rp | apply Rb
    exact JX.retM1e rfl HasOwn.mem rfl (by unfold takeV; rw [if_neg (show ¬ letB (by_ s n) = true by rw [show letB (by_ s n) = false from ht13]; simp), if_neg (show ¬ digB (by_ s n) = true by rw [show digB (by_ s n) = false from ht18]; simp), if_neg (by rw [← q39]; rw [show (((by_ s n).toNat : Int) == 39) = false from ht23]; simp)]) (by rfl)
theorem Zfk (s : ByteArray) : CallF Tryz.prog Zfz [GF] [.is (.string s)] (.tup2 (.rep (SlC T3.cells 3 (lexL s.data.toList).1)) (.is (.int .i64 (lexL s.data.toList).2))) :=
CallF.of (fn := Tryz.f24) Tryz.func24 (n := 39) rfl rfl rfl (fun _ _ => by kernel_rfl) fun E W => by
 repeat apply Sq
 apply Pn
 refine Jt (Z2 rfl) rfl ?_
 refine Jt (Z2 rfl) rfl ?_
 apply Ni
 repeat first | apply Nx | apply Nb
 refine Sl [0] (.cons rfl .nil) ?_
 repeat apply Sq
 apply Pn
 refine Jt (Z0 rfl) rfl ?_
 refine Jt (Z2Y Zl rfl) rfl ?_
 refine Jt (Z2O rfl rfl) rfl ?_
 apply Ni
 repeat first | apply Nx | apply Nb
 refine Sl [0, 10] (.cons rfl (.cons rfl .nil)) ?_
 repeat apply Sq
 refine Cd rfl (fun ht10 => ?_) (fun ht10 => ?_)
 ·
  try simp only [dT, dF] at ht10
  have hx : lexL s.data.toList = ([], 30) := by unfold lexL; rw [if_pos (by rw [Z1w]; simpa using ht10)]
  repeat apply Sq
  apply Pn
  refine Jt (Z2 rfl) rfl ?_
  refine Jt (Z2 rfl) rfl ?_
  apply Ni
  repeat first | apply Nx | apply Nb
  refine Sl [2, 3] (.cons rfl (.cons rfl .nil)) ?_
  repeat apply Sq
  apply Rt
  repeat first | apply Rp | apply Rb
  exact JX.ret2sub rfl rfl rfl (by rw [hx]; exact Sub.slNilC) rfl (Sub.isEq (by rw [hx]))
 ·
  try simp only [dT, dF] at ht10
  apply Sk
  repeat first | apply Nx | apply Nb
  have hsz : s.size ≤ 2048 := by have h := ht10; omega
  have h0 : 0 + runN isSp (dr s 0) ≤ s.size := ZeR (p := isSp) (Nat.zero_le _)
  repeat apply Sq
  apply Pn
  refine Jt (Z0 rfl) rfl ?_
  refine Jt (Zv (cs := [_, _]) Zae (.cons rfl .nil) rfl rfl) rfl ?_
  refine JO.box rfl rfl fun b13 => ?_
  refine Jt (Z2 rfl) rfl ?_
  apply Ni
  repeat first | apply Nx | apply Nb
  refine Sl [0, 4] (.cons rfl (.cons rfl .nil)) ?_
  repeat apply Sq
  apply Pn
  refine Jt (Z2 rfl) rfl ?_
  apply Ni
  repeat first | apply Nx | apply Nb
  refine Sl [0, 4, 5] (.cons rfl (.cons rfl (.cons rfl .nil))) ?_
  repeat apply Sq
  apply Pn
  refine Jt (Z0 rfl) rfl ?_
  refine JO.md (Z7p rfl rfl (Z4l s 0 (by omega) (by omega)) (by repeat first | exact .here | apply Ut) (by simp) .nil) (by rfl) rfl ?_
  apply Ni
  repeat first | apply Nx | apply Nb
  refine Sl [0, 4, 5] (.cons rfl (.cons rfl (.cons rfl .nil))) ?_
  repeat apply Sq
  apply Bk
  repeat apply Sq
  refine J.loopG (α := Nat × List T3 × Option (Nat × List Value) × Nat) (fun z => [(0, .is (.string s)), (4, .is (.pointer (some ⟨b13, 0, none⟩))), (5, .is (sliceO z.2.2.1 z.2.1.length z.2.2.2))]) (fun z => ⟨b13, Z14, .is (sv s z.1)⟩ :: ownO z.2.2.1 Z22 []) (fun z => fun _ => True) (fun z => z.1 ≤ s.size ∧ (finA z.2.1 (allA (dr s z.1)) = lexL s.data.toList ∧ runN isSp (dr s z.1) = 0) ∧ Grows T3.cells 3 z.2.1 z.2.2.1 z.2.2.2 ∧ z.2.1.length ≤ z.1) (fun z => s.size - z.1) (0 + runN isSp (dr s 0), [], none, 0) [0, 4, 5] (.cons rfl (.cons rfl (.cons rfl .nil))) rfl (fun _ => trivial) ⟨h0, ⟨Zfy hsz, ZfV s 0⟩, rfl, by simp⟩ fun ⟨i, xs, st, cp⟩ ⟨hi, ⟨hr, hsp⟩, hG, hal⟩ => ?_
  try dsimp only
  try dsimp only at xs
  try dsimp only at st
  try dsimp only at cp
  try dsimp only at hi
  try dsimp only at hr
  try dsimp only at hsp
  try dsimp only at hG
  try dsimp only at hal
  repeat apply Sq
  apply Pn
  refine Jt (Z0 rfl) rfl ?_
  refine Jt (Z5 rfl) rfl ?_
  refine Jt (Z1 Zc rfl) rfl ?_
  refine Jt (Z4 ZA rfl rfl) rfl ?_
  refine Jt (Z0 rfl) rfl ?_
  refine Jt (Z2Y Zl rfl) rfl ?_
  refine Jt (Z1h rfl rfl) rfl ?_
  apply Ni
  repeat first | apply Nx | apply Nb
  refine Sl [0, 4, 5, 22] (.cons rfl (.cons rfl (.cons rfl (.cons rfl .nil)))) ?_
  repeat apply Sq
  refine Cd rfl (fun ht22 => ?_) (fun ht22 => ?_)
  ·
   try simp only [dT, dF] at ht22
   apply Sk
   repeat first | apply Nx | apply Nb
   repeat apply Sq
   apply Bk
   have hlt : i < s.size := by omega
   have hle : i + (stepL (dr s i)).2 ≤ s.size := by have := Z8B (dr s i); rw [Z8n] at this; omega
   repeat apply Sq
   apply Pn
   refine Jt (Z0 rfl) rfl ?_
   refine JO.md (ZfL rfl rfl (Z7z s i (by omega)) (by repeat first | exact .here | apply Ut) (by simp) .nil) (by rfl) rfl ?_
   refine JO.md (ZeN rfl ((ZeE s i (by omega) (by omega) b13)) (by repeat first | exact .here | apply Ut) (by simp) .nil) (by rfl) rfl ?_
   refine Jt (Z0 rfl) rfl ?_
   refine Jt (Z1P rfl) rfl ?_
   refine Jt (Z1O rfl) rfl ?_
   refine JO.alloc Z2e rfl fun b6 => ?_
   refine JO.m (Z3 rfl rfl (by repeat first | exact .here | apply Ut) (by first | exact cI rfl rfl | exact cE) (by first | exact cI rfl rfl | exact cE | exact cO) Z17) (by rfl) ?_
   refine Jt (Z2 rfl) rfl ?_
   apply Ni
   repeat first | apply Nx | apply Nb
   refine Sl [0, 4, 5, 6, 7] (.cons rfl (.cons rfl (.cons rfl (.cons rfl (.cons rfl .nil))))) ?_
   repeat apply Sq
   apply Pn
   refine Jt (Z0 rfl) rfl ?_
   refine Jt (Z1J rfl rfl) rfl ?_
   apply Ni
   repeat first | apply Nx | apply Nb
   refine Sl [0, 4, 5, 6, 7, 32] (.cons rfl (.cons rfl (.cons rfl (.cons rfl (.cons rfl (.cons rfl .nil)))))) ?_
   repeat apply Sq
   refine Cd rfl (fun ht32 => ?_) (fun ht32 => ?_)
   ·
    try simp only [dT, dF] at ht32
    have hx := Zhm hlt hsp (by simpa using ht32) hr
    repeat apply Sq
    apply Pn
    refine Jt (Z0 rfl) rfl ?_
    refine Jt (Z2 rfl) rfl ?_
    refine Jt (Z2 rfl) rfl ?_
    apply Ni
    repeat first | apply Nx | apply Nb
    refine Sl [2, 3] (.cons rfl (.cons rfl .nil)) ?_
    repeat apply Sq
    apply Rt
    repeat first | apply Rp | apply Rb
    exact JX.ret2sub rfl rfl rfl (by rw [hx]; exact Sub.slNilC) rfl (Sub.isEq (by rw [hx]))
   ·
    try simp only [dT, dF] at ht32
    apply Sk
    repeat first | apply Nx | apply Nb
    have he0 : (stepL (dr s i)).1.2 = 0 := by simpa using ht32
    have hp1 : 1 ≤ (stepL (dr s i)).2 := by rw [Z2A hlt] at he0 ⊢; exact Z7K he0
    repeat apply Sq
    apply Pn
    refine Jt (Z0 rfl) rfl ?_
    refine Jt (ZG (cs := [_, _, _]) ZW rfl rfl rfl) rfl ?_
    refine Jt (ZF (cs := [_, _, _]) Z9L (by omega) (by omega) (.cons rfl .nil) rfl rfl rfl) rfl ?_
    refine JO.apP [(stepL (dr s i)).1.1] Z9A T3.len (by repeat (first | exact .here | apply Cx.past | apply Cx.there)) hG rfl rfl (fun L => Z4c ZY rfl rfl) (by simp) (by simp; omega) (by simp; omega) rfl (fun st1 cp1 hG1 => ?_)
    try dsimp only
    refine Jt (Z2 rfl) rfl ?_
    apply Ni
    repeat first | apply Nx | apply Nb
    refine Sl [0, 4, 5] (.cons rfl (.cons rfl (.cons rfl .nil))) ?_
    repeat apply Sq
    apply Pn
    refine Jt (Z0 rfl) rfl ?_
    refine JO.md (Z7p rfl rfl (Z4l s (i + (stepL (dr s i)).2) (by omega) (by omega)) (by repeat first | exact .here | apply Ut) (by simp) .nil) (by rfl) rfl ?_
    apply Ni
    repeat refine JX.normal_block ?_
    refine JX.roundG (x := ⟨i, xs, st, cp⟩) (i + (stepL (dr s i)).2 + runN isSp (dr s (i + (stepL (dr s i)).2)), xs ++ [(stepL (dr s i)).1.1], st1, cp1) ?_ ?_ [0, 4, 5] ?_ ?_ ?_ ?_
    · exact ⟨ZeR (p := isSp) hle, ⟨ZgW hlt hsp he0 hr, ZfV s (i + (stepL (dr s i)).2)⟩, hG1, by simp; omega⟩
    · exact (by simp only; omega)
    · exact (.cons rfl (.cons rfl (.cons rfl .nil)))
    · repeat (first | exact .all | exact .nil | refine Has.own (by repeat first | exact .here | apply Tl.past | apply Tl.there) ?_ | refine Has.cons (by repeat (first | exact .here | apply Pk.past | apply Pk.there)) ?_)
    · exact fun G hG => by repeat (first | exact hG | refine List.mem_cons_of_mem _ ?_)
    · exact fun _ _ _ => fun _ _ => trivial
  ·
   try simp only [dT, dF] at ht22
   repeat apply Sq
   refine J.exit ?_
   repeat first | refine Ht ?_ | refine Ms rfl ?_ | refine Ep ?_
   repeat first | apply Nx | apply Nb
   have hfin : lexL s.data.toList = (xs, 0) := by rw [← hr, Z76 (by omega)]; simp [finA, ZgL]
   refine J.freezeO T3.len hG (e := Z22) (by repeat first | exact .here | apply Tl.past | apply Tl.there) (fun _ h => h) rfl rfl ?_
   repeat apply Sq
   apply Pn
   refine Jt (Z0 rfl) rfl ?_
   refine Jt (Z2 rfl) rfl ?_
   refine Jt (Z2 rfl) rfl ?_
   apply Ni
   repeat first | apply Nx | apply Nb
   refine Sl [2, 3] (.cons rfl (.cons rfl .nil)) ?_
   repeat apply Sq
   apply Rt
   repeat first | apply Rp | apply Rb
   exact JX.ret2sub rfl rfl rfl (by rw [hfin]; exact Sub.slOC hG (by repeat first | exact Mh | apply Mt)) rfl (Sub.isEq (by rw [hfin]))
end Go.Proofs.YtbedigkncjbggaaGreatDoor
set_option maxRecDepth 20000
namespace Go.Proofs.YtbedigkncjbggaaGreatDoor
open Go Go.Vc
def capB (b : UInt8) : Bool := decide (65 ≤ (b.toNat : Int)) && decide ((b.toNat : Int) ≤ 90)
def lowC (q : Bool) (b : UInt8) : UInt8 := if !q && capB b then b + 32 else b
def flipQ (q : Bool) (b : UInt8) : Bool := if b == 39 then !q else q
def caseL : Bool → List UInt8 → List UInt8
 | _, [] => []
 | q, b :: l => lowC (flipQ q b) b :: caseL (flipQ q b) l
theorem Z8f : ∀ (q : Bool) (l : List UInt8), (caseL q l).length = l.length
 | _, [] => rfl
 | q, b :: l => by rw [caseL, List.length_cons, Z8f, List.length_cons]
theorem ZbL : ∀ (f : Nat) (l : List UInt8), (allG f l).1.length ≤ f
  | 0, _ => Nat.le_refl _
  | f + 1, l => by
    unfold allG
    cases hd : l.drop (runN isSp l) with
    | nil => exact Nat.zero_le _
    | cons b r =>
      dsimp only
      split
      · exact Nat.zero_le _
      · split
        · exact Nat.zero_le _
        · have := ZbL f ((b :: r).drop (stepL (b :: r)).2)
          simp only [List.length_cons]
          omega
theorem ZbM (l : List UInt8) : (lexL l).1.length ≤ 2049 := by
  unfold lexL
  split
  · exact Nat.zero_le _
  · rename_i h
    have := ZbL (l.length + 1) l
    simp at h
    omega
theorem ZfD {b : UInt8} {q : Bool} (h : ((b.toNat : Int) == 39) = true) : flipQ q b = !q := by unfold flipQ; rw [if_pos (by rw [← q39]; exact h)]
theorem ZeD {b : UInt8} {q : Bool} (h : ((b.toNat : Int) == 39) = false) : flipQ q b = q := by unfold flipQ; rw [if_neg (by rw [← q39, h]; simp)]
def sameT : List T3 → List T3 → Bool
 | [], [] => true
 | x :: xs, y :: ys => teq x y && sameT xs ys
 | _, _ => false
end Go.Proofs.YtbedigkncjbggaaGreatDoor
set_option maxRecDepth 20000
namespace Go.Proofs.YtbedigkncjbggaaGreatDoor
open Go Go.Vc
open Go.Pz
abbrev zSt : Ty := .is (stV st0 nilv nilv nilv nilv nilv nilv nilv nilv nilv)
theorem SrZero {N : Nat} {L : List Own} {Φ : List (World → Prop)} : Sub L Φ zSt (.rep (StR N st0)) := Sub.st rfl fun X w hf w' hk => ⟨Zb (FrS.nil _), Zb (FrS.nil _), Zb trivial, Zb trivial, Zb trivial, Zb (FrS.nil _), Z13, Zb trivial, Z13⟩
theorem Ze2 (w : World) : (zeroValue 59).run Tryz.prog w = .ok (.agg #[]) w := by
  have hz := Z4S
  unfold zeroOf at hz
  cases hq : Tryz.prog.info? 59 with
  | none => rw [hq] at hz; cases hz
  | some i =>
    rw [hq] at hz
    simp only [Option.bind_some] at hz
    simp [zeroValue, typeInfo, hq, hz]
def RecS (b2 b3 : Nat) (T2 : Ty) (e3 : Int) (u u' : FrameMode) (T2' : Ty) (e3' : Int) : Prop := CallRec Tryz.prog Z2m [⟨b2, Zw, T2⟩, ⟨b3, Z1B, .is (.int .i64 e3)⟩] ([.pointer (some ⟨b2, 0, none⟩), .pointer (some ⟨b3, 0, none⟩)].map Ty.is) u u' [⟨b2, Zw, T2'⟩, ⟨b3, Z1B, .is (.int .i64 e3')⟩]
theorem ZfE (b2 b3 : Nat) (T2 : Ty) (h2 : T2.out = true) (e3 : Int) : RecS b2 b3 T2 e3 .returning .returning T2 e3 :=
  CallRec.of (fn := Tryz.f25) .none Tryz.func25 rfl (n := 11) rfl rfl rfl (fun _ _ => by kernel_rfl) fun E W hb0 => by
  refine Jt (ZcU (d := .struct #[]) (by kernel_rfl) rfl Ze2 rfl) rfl ?_
  refine Jt (Z0 rfl) rfl ?_
  refine Jt (Z1P rfl) rfl ?_
  refine Jt (Z1O rfl) rfl ?_
  refine JO.alloc Z4S rfl fun b4 => ?_
  refine JO.m (Z3 rfl rfl (by repeat first | exact .here | apply Ut) (by first | exact cI rfl rfl | exact cE) (by first | exact cI rfl rfl | exact cE | exact cO) Z7j) (by rfl) ?_
  refine Jt (Z2 rfl) rfl ?_
  apply Ni
  repeat first | apply Nx | apply Nb
  refine Sl [0, 1, 3] (.cons rfl (.cons rfl (.cons rfl .nil))) ?_
  repeat apply Sq
  apply Pn
  refine Jt (Z0 rfl) rfl ?_
  apply Ni
  repeat first | apply Nx | apply Nb
  refine Sl [0, 1, 9] (.cons rfl (.cons rfl (.cons rfl .nil))) ?_
  repeat apply Sq
  refine Cd rfl (fun ht9 => ?_) (fun ht9 => ?_)
  · cases ht9
  · apply Sk
    refine JX.normal_ret ?_
    exact JX.retL0 (Lr := [_]) (L1 := fun _ : Unit => [⟨b2, Zw, T2⟩, ⟨b3, Z1B, .is (.int .i64 e3)⟩]) rfl () trivial (List.perm_append_comm (l₁ := [_]) (l₂ := [_, _])) (by simp [h2, Ty.out]) hb0 rfl
theorem Zag (b2 b3 : Nat) (T2 : Ty) (h2 : Cnt T2 14) (e3 : Int) : RecS b2 b3 T2 e3 (.panicking flt) (.panicking [{ v := .iface Z7l (.agg #[]), recovered := true }]) zSt 30 :=
  CallRec.of (fn := Tryz.f25) .some Tryz.func25 rfl (n := 11) rfl rfl rfl (fun _ _ => by kernel_rfl) fun E W hb0 => by
  refine Jt (ZcQ (d := .struct #[]) (by kernel_rfl) rfl rfl) rfl ?_
  refine Jt (Z0 rfl) rfl ?_
  refine Jt (Z1P rfl) rfl ?_
  refine Jt (Z1O rfl) rfl ?_
  refine JO.alloc Z4S rfl fun b4 => ?_
  refine JO.m (Z3 rfl rfl (by repeat first | exact .here | apply Ut) (by first | exact cI rfl rfl | exact cE) (by first | exact cI rfl rfl | exact cE | exact cO) Z7j) (by rfl) ?_
  refine Jt (Z2 rfl) rfl ?_
  apply Ni
  repeat first | apply Nx | apply Nb
  refine Sl [0, 1, 3] (.cons rfl (.cons rfl (.cons rfl .nil))) ?_
  repeat apply Sq
  apply Pn
  refine Jt (Z0 rfl) rfl ?_
  apply Ni
  repeat first | apply Nx | apply Nb
  refine Sl [0, 1, 9] (.cons rfl (.cons rfl (.cons rfl .nil))) ?_
  repeat apply Sq
  refine Cd rfl (fun ht9 => ?_) (fun ht9 => ?_)
  · repeat apply Sq
    apply Pn
    refine Jt (Zv (cs := [_, _, _, _, _, _, _, _, _, _, _, _, _, _]) Z1X .nil rfl rfl) rfl ?_
    refine JO.m (Z3 rfl rfl (by repeat first | exact .here | apply Ut) h2 (by exact Z19 rfl rfl) Zj) (by rfl) ?_
    refine JO.m (Z3 rfl rfl (by repeat first | exact .here | apply Ut) (by exact Z19 rfl rfl) (by exact Z19 rfl rfl) Z3x) (by rfl) ?_
    apply Ni
    refine JX.normal_ret ?_
    exact JX.retL0 (Lr := [_]) (L1 := fun _ : Unit => [⟨b2, Zw, zSt⟩, ⟨b3, Z1B, .is (.int .i64 30)⟩]) rfl () trivial (List.perm_append_comm (l₁ := [_]) (l₂ := [_, _])) rfl hb0 rfl
  · cases ht9
theorem Z9N (b : Nat) (a : Option Addr) (cap : Nat) : CallP Tryz.prog Z3h [⟨b, Z2l, .is (.agg #[.slice a 0 cap])⟩] [] [.is (.pointer (some ⟨b, 0, none⟩))] True flt (fun _ : Unit => False) (fun _ => []) (fun _ => .is (.tuple #[])) :=
 CallP.of (fn := Tryz.f26) Tryz.func26 (n := 43) rfl rfl rfl (fun _ _ => by kernel_rfl) fun E W hb0 => by
 repeat apply Sq
 apply Pn
 refine JO.alloc ZU rfl fun b2 => ?_
 apply Ni
 repeat first | apply Nx | apply Nb
 refine Sl [0, 2] (.cons rfl (.cons rfl .nil)) ?_
 repeat apply Sq
 refine J.regS 17 hmx (by kernel_rfl) (by kernel_rfl) ?_
 refine Rq (Z0 rfl) ?_
 refine Rq (Z0 rfl) ?_
 refine Rq (Z5 rfl) ?_
 refine Rq (Z1 Zg rfl) ?_
 refine Rq (Z4 Zs rfl rfl) ?_
 refine Rq (Zq ZY rfl) ?_
 refine Rq (Z2O rfl rfl) ?_
 refine Rq (Z0 rfl) ?_
 refine Rg rfl rfl rfl (fun hg => Z0 (.inl rfl)) ?_
 refine Rg rfl rfl rfl (fun hg => Z5 (.inr ⟨_, rfl, id⟩)) ?_
 refine Rg rfl rfl rfl (fun hg => Z1 Zg (.inr ⟨_, rfl, id⟩)) ?_
 refine Rg rfl rfl rfl (fun hg => Z4 Zs (.inr ⟨_, rfl, id⟩) rfl) ?_
 refine RT.g (T := .is (.bool true)) rfl rfl rfl (fun hg => absurd hg (by decide)) ?_
 refine RT.g (T := .is (.bool true)) rfl rfl rfl (fun hg => absurd hg (by decide)) ?_
 refine RT.g (T := .is (.bool true)) rfl rfl rfl (fun hg => absurd hg (by decide)) ?_
 refine RT.g (T := .is (.bool true)) rfl rfl rfl (fun hg => absurd hg (by decide)) ?_
 refine Rq (Zy rfl rfl rfl id) ?_
 apply Rn
 refine FinS.tail0 ?_
 refine JO.callPK (Lr := _) (Z7 (.pointer (some ⟨b, 0, none⟩)) _) rfl (Z1a _) Z10 (.one rfl (.one rfl .nil)) (fun hbad => ?_) ?_
 · exact JX.pnI trivial
 intro z hz
 exact absurd hz (by decide)
theorem Zia (ts : List T3) (bb oo cap : Nat) : Value.slice (some ⟨bb, oo, none⟩) ts.length cap = Tk.sl ⟨ts, bb, oo, cap⟩ ts := by
 have hk : Tk.k ⟨ts, bb, oo, cap⟩ ts = 0 := Nat.sub_self _
 have hj : Tk.j ⟨ts, bb, oo, cap⟩ ts = 0 := by unfold Tk.j; rw [hk]; split <;> rfl
 show _ = Value.slice (some ⟨bb, oo + 3 * Tk.j ⟨ts, bb, oo, cap⟩ ts, none⟩) ts.length (cap - Tk.k ⟨ts, bb, oo, cap⟩ ts)
 rw [hk, hj]; rfl
theorem Ziw {l : List T3 × Int} (h : ¬ l.2 = 0) : readS l = (st0, l.2) := by unfold readS; rw [if_neg (by simpa using h)]
theorem Ze0 {l : List T3 × Int} (h : l.2 = 0) (hn : wholeP l.1 = none) : readS l = (st0, 30) := by unfold readS; rw [if_pos (by simpa using h)]; unfold readT; rw [hn]
theorem Zj3 {l : List T3 × Int} {s : Pz.St} (h : l.2 = 0) (hn : wholeP l.1 = some s) (hd : deepS s = true) : readS l = (st0, 31) := by unfold readS; rw [if_pos (by simpa using h)]; unfold readT; rw [hn]; simp only; rw [if_pos hd]
theorem Zip {l : List T3 × Int} {s : Pz.St} (h : l.2 = 0) (hn : wholeP l.1 = some s) (hd : deepS s = false) : readS l = (s, 0) := by unfold readS; rw [if_pos (by simpa using h)]; unfold readT; rw [hn]; simp only; rw [if_neg (by rw [hd]; decide)]
theorem ZgB {ts : List T3} (h : stmtP (exprP (ts.length + 1)) ts = none) : wholeP ts = none := by unfold wholeP; rw [h]; rfl
theorem ZfJ {ts : List T3} {z : Pz.St × List T3} (h : stmtP (exprP (ts.length + 1)) ts = some z) (hs : ¬ (skT 5 Z1I z.2).length = 0) : wholeP ts = none := by
 unfold wholeP; rw [h, Option.bind_some]; split
 · rename_i h2; rw [h2] at hs; exact absurd rfl hs
 · rfl
theorem Zfi {ts : List T3} {z : Pz.St × List T3} (h : stmtP (exprP (ts.length + 1)) ts = some z) (hs : (skT 5 Z1I z.2).length = 0) : wholeP ts = some z.1 := by
 unfold wholeP; rw [h, Option.bind_some]; rw [List.length_eq_zero_iff.1 hs]
section
variable {P : Program} {c : Ctx} {K : List (Nat × Ty)} {L : List Own} {Φ : List (World → Prop)} {Q : Exit → Act → World → Prop}
theorem Z4U {α : Type} {En : Enc α} {G : GoS} {xs : List α} {v : Value} {w : World} (h : SlE En G xs v w) : v.oneCell' = true := by obtain ⟨ps, a, len, cap, _, rfl, _⟩ := h; rfl
theorem ZbU {xs : List Ex} {v : Value} {w : World} (h : ExsR xs v w) : v.oneCell' = true := by obtain ⟨a, len, cap, rfl, _⟩ := h; rfl
theorem J.openOwnSt {N b : Nat} {e : TypeId} {st : Pz.St} {y : Code} (hj : ∀ vc vn vr vi vf vw vg vo vs : Value, (∀ u ∈ [vc, vn, vr, vi, vf, vw, vg, vo, vs], u.oneCell' = true) → J P c K (⟨b, e, .is (stV st vc vn vr vi vf vw vg vo vs)⟩ :: L) (SlE coE (FC N) st.cols vc :: SlE stE (FN N) st.names vn :: SlE rwE noS st.rows vr :: SlE itE noS st.items vi :: SlE srE noS st.from_ vf :: SlE exE (FX N) st.where_ vw :: ExsR st.group vg :: SlE kyE noS st.order vo :: ExsR st.sets vs :: Φ) y Q) : J P c K (⟨b, e, .rep (StR N st)⟩ :: L) Φ y Q := by
  refine ⟨fun X a w hs => ?_⟩
  obtain ⟨hb, v, hv, hp⟩ := hs.l _ List.mem_cons_self
  obtain ⟨vc, vn, vr, vi, vf, vw, vg, vo, vs, rfl, h1, h2, h3, h4, h5, h6, h7, h8, h9⟩ := Zfq (show Pers X w (StR N st v) from hp)
  refine (hj vc vn vr vi vf vw vg vo vs ?_).out X a w ⟨hs.n, hs.d, hs.wf, hs.k, ?_, hs.ld, ?_, hs.x, hs.xs, hs.keeps, ?_⟩
  · intro u hu
    simp only [List.mem_cons, List.mem_nil_iff, or_false] at hu
    rcases hu with rfl | rfl | rfl | rfl | rfl | rfl | rfl | rfl | rfl
    · exact Z4U h1.now
    · exact Z4U h2.now
    · exact Z4U h3.now
    · exact Z4U h4.now
    · exact Z4U h5.now
    · exact Z4U h6.now
    · exact ZbU h7.now
    · exact Z4U h8.now
    · exact ZbU h9.now
  · intro o ho
    rcases List.mem_cons.1 ho with rfl | ho
    · exact ⟨hb, _, hv, rfl⟩
    · exact hs.l o (List.mem_cons_of_mem _ ho)
  · intro F hF
    simp only [List.mem_cons] at hF
    rcases hF with rfl | rfl | rfl | rfl | rfl | rfl | rfl | rfl | rfl | hF <;> first | assumption | exact hs.f F hF
  · intro o ho
    rcases List.mem_cons.1 ho with rfl | ho
    · exact hs.may ⟨b, e, .rep (StR N st)⟩ List.mem_cons_self
    · exact hs.may o (List.mem_cons_of_mem _ ho)
end
theorem Zat {st : Pz.St} {vc vn vr vi vf vw vg vo vs : Value} (h : ∀ u ∈ [vc, vn, vr, vi, vf, vw, vg, vo, vs], u.oneCell' = true) : Cnt (.is (stV st vc vn vr vi vf vw vg vo vs)) 14 := Z19 rfl (by
 simp only [List.mem_cons, List.mem_nil_iff, or_false, forall_eq_or_imp, forall_eq] at h
 simp [Value.cells, h]
 all_goals exact ⟨rfl, rfl, rfl, rfl, rfl⟩)
abbrev lx (s : ByteArray) : List T3 × Int := lexL s.data.toList
theorem ZaV (N : Nat) (s : ByteArray) : CallL Tryz.prog Z3l (Z := Unit) [] [NH N, GF, AF] [.is (.string s)] (fun _ => True) (fun _ => []) (fun _ => .tup2 (.rep (StR N (readS (lx s)).1)) (.is (.int .i64 (readS (lx s)).2))) :=
CallL.ofD (N := N) List.mem_cons_self (fn := Tryz.f13) Tryz.func13 (n := 34) rfl rfl rfl (fun _ _ => by kernel_rfl) fun E W hNW hb0 => by
  repeat apply Sq
  apply Pn
  refine JO.alloc ZU rfl fun b2 => ?_
  refine JO.alloc Zce rfl fun b3 => ?_
  apply Ni
  repeat first | apply Nx | apply Nb
  refine Sl [0, 2, 3] (.cons rfl (.cons rfl (.cons rfl .nil))) ?_
  repeat apply Sq
  apply Pn
  refine Jt (Z0 rfl) rfl ?_
  refine Jt (Z2o rfl (Zfk _) (by simp) (.one rfl .nil)) rfl ?_
  refine Jt (Z0 rfl) rfl ?_
  refine Jt (Z1P rfl) rfl ?_
  refine Jt (Z1O rfl) rfl ?_
  refine Jt (Z2 rfl) rfl ?_
  refine JO.m (Z3 rfl rfl (by repeat first | exact .here | apply Ut) (by first | exact cI rfl rfl | exact cE) (by first | exact cI rfl rfl | exact cE | exact cO) Z3x) (by rfl) ?_
  apply Ni
  repeat first | apply Nx | apply Nb
  refine Sl [2, 3, 4] (.cons rfl (.cons rfl (.cons rfl .nil))) ?_
  repeat apply Sq
  apply Pn
  refine Jt (Z4 Z2f rfl rfl) rfl ?_
  refine Jt (Z1J rfl rfl) rfl ?_
  apply Ni
  repeat first | apply Nx | apply Nb
  refine Sl [2, 3, 4, 12] (.cons rfl (.cons rfl (.cons rfl (.cons rfl .nil)))) ?_
  repeat apply Sq
  refine Cd rfl (fun ht12 => ?_) (fun ht12 => ?_)
  ·
    try simp only [dT, dF] at ht12
    repeat apply Sq
    refine J.regSm 2 3 ([⟨b3, Z1B, .is (.int .i64 (lx s).2)⟩, ⟨b2, Zw, zSt⟩]) ([⟨b3, Z1B, .is (.int .i64 (lx s).2)⟩]) rfl rfl rfl rfl hmx (by kernel_rfl) rfl rfl (by kernel_rfl) (fun E w h m hm => h m (by rw [List.mem_singleton.1 hm]; exact List.mem_cons_self)) (fun E w h m hm => h m (by rw [List.mem_singleton.1 hm]; exact List.mem_cons_self)) ?_
    refine Rq (Zv (cs := [_, _, _, _, _, _, _, _, _, _, _, _, _, _]) Z1X .nil rfl rfl) ?_
    refine Rq (Z4 Z2f rfl rfl) ?_
    refine RT.store (BigOb.store rfl (Z3 rfl rfl (by repeat first | exact .here | apply Ut) (by exact Z19 rfl rfl) (by exact Z19 rfl rfl) Zj)) ?_
    apply Rn
    refine JO.m (Z3 rfl rfl (by repeat first | exact .here | apply Ut) (by first | exact cI rfl rfl | exact cE) (by first | exact cI rfl rfl | exact cE | exact cO) Z3x) (by rfl) ?_
    apply Ni
    repeat first | apply Nx | apply Nb
    refine Sl [2, 3] (.cons rfl (.cons rfl .nil)) ?_
    repeat apply Sq
    apply Rt
    repeat first | apply Rp | apply Rb
    refine JX.ret0D ?_
    exact JX.retLCC (Lr := _) (L1 := fun _ : Unit => []) (A := .rep (StR N st0)) (B := .int .i64 (lx s).2) (R := fun _ => .tup2 (.rep (StR N (readS (lx s)).1)) (.is (.int .i64 (readS (lx s)).2))) rfl () trivial (.refl _) rfl hb0 rfl rfl Z8 Z2f (by repeat first | exact Mh | apply Mt) (by repeat first | exact Mh | apply Mt) (Z18 rfl) rfl rfl SrZero (by show Ty.tup2 (.rep (StR N (readS (lx s)).1)) (.is (.int .i64 (readS (lx s)).2)) = _; rw [Ziw (l := lx s) (by simpa using ht12)])
  ·
    try simp only [dT, dF] at ht12
    apply Sk
    repeat first | apply Nx | apply Nb
    have hq : (lx s).2 = 0 := by first | exact ht12 | simpa using ht12
    repeat apply Sq
    apply Pn
    refine Jt (Z2U .nil (.cons rfl (.cons rfl .nil))) rfl ?_
    refine JO.defer rfl ?_
    apply Ni
    repeat first | apply Nx | apply Nb
    refine Sl [2, 3, 4] (.cons rfl (.cons rfl (.cons rfl .nil))) ?_
    refine J.openSlC (s := 4) rfl (fun a len cap bb oo hl ha hlc => ?_)
    have h9 : (lx s).1.length ≤ 2049 := ZbM _
    by_cases hn : (lx s).1 = []
    · have hz0 : (lx s).1 = [] := hn
      repeat apply Sq
      apply Pn
      refine Jt (Z0 rfl) rfl ?_
      refine Jt (Zv (cs := [_]) Z6E (.cons rfl .nil) rfl rfl) rfl ?_
      refine JO.box rfl rfl fun b18 => ?_
      refine Jt (Z2 rfl) rfl ?_
      apply Ni
      repeat first | apply Nx | apply Nb
      refine Sl [2, 3, 5] (.cons rfl (.cons rfl (.cons rfl .nil))) ?_
      repeat apply Sq
      apply Pn
      refine Jt (Z0 rfl) rfl ?_
      refine JO.callPK (Lr := [_, _]) (Z9N b18 a cap) rfl (by rw [show len = 0 by rw [← hl, hn]; rfl]; exact .refl _) Z10 (.one rfl .nil) (fun _ => ?_) (fun _ h => h.elim)
      (repeat (first | refine JX.pan_pass ?_ | refine JX.pan_block ?_))
      refine JX.panD (f := Z2m) (cap := [.pointer (some ⟨b2, 0, none⟩), .pointer (some ⟨b3, 0, none⟩)]) (L0 := [⟨b2, Zw, zSt⟩, ⟨b3, Z1B, .is (.int .i64 (lx s).2)⟩]) (Lr := []) (Zag b2 b3 _ (by exact Z19 rfl rfl) _) rfl (.swap _ _ _) ?_
      exact JX.retLCC (Lr := _) (L1 := fun _ : Unit => []) (A := .rep (StR N st0)) (B := .int .i64 30) (R := fun _ => .tup2 (.rep (StR N (readS (lx s)).1)) (.is (.int .i64 (readS (lx s)).2))) rfl () trivial (.refl _) rfl hb0 rfl rfl Z8 Z2f (by repeat first | exact Mh | apply Mt) (by repeat first | exact Mh | apply Mt) (Z18 rfl) rfl rfl SrZero (by show Ty.tup2 (.rep (StR N (readS (lx s)).1)) (.is (.int .i64 (readS (lx s)).2)) = _; rw [Ze0 hq (by rw [hz0]; rfl)])
    have ha2 := ha (by rw [← hl]; exact fun h => hn (List.length_eq_zero_iff.1 h))
    subst ha2 hl
    rw [Zia]
    repeat apply Sq
    apply Pn
    refine Jt (Z0 rfl) rfl ?_
    refine Jt (Zv (cs := [_]) Z6E (.cons rfl .nil) rfl rfl) rfl ?_
    refine JO.box rfl rfl fun b18 => ?_
    refine Jt (Z2 rfl) rfl ?_
    apply Ni
    repeat first | apply Nx | apply Nb
    refine Sl [2, 3, 5] (.cons rfl (.cons rfl (.cons rfl .nil))) ?_
    repeat apply Sq
    apply Pn
    refine Jt (Z0 rfl) rfl ?_
    refine JO.callPK (Lr := [_, _]) (Z5r N ⟨(lx s).1, bb, oo, cap⟩ hlc h9 b18 (lx s).1 (List.suffix_refl _) ((lx s).1.length + 1) (Nat.lt_succ_self _)) rfl (.refl _) (fun F hF => by repeat (first | (rcases Mc.1 hF with rfl | hF; · (repeat first | exact Mh | apply Mt)) | (cases hF; done))) (.one rfl .nil) (fun hbad => ?_) ?_
    · (repeat (first | refine JX.pan_pass ?_ | refine JX.pan_block ?_))
      refine JX.panD (f := Z2m) (cap := [.pointer (some ⟨b2, 0, none⟩), .pointer (some ⟨b3, 0, none⟩)]) (L0 := [⟨b2, Zw, zSt⟩, ⟨b3, Z1B, .is (.int .i64 (lx s).2)⟩]) (Lr := []) (Zag b2 b3 _ (by exact Z19 rfl rfl) _) rfl (.swap _ _ _) ?_
      exact JX.retLCC (Lr := _) (L1 := fun _ : Unit => []) (A := .rep (StR N st0)) (B := .int .i64 30) (R := fun _ => .tup2 (.rep (StR N (readS (lx s)).1)) (.is (.int .i64 (readS (lx s)).2))) rfl () trivial (.refl _) rfl hb0 rfl rfl Z8 Z2f (by repeat first | exact Mh | apply Mt) (by repeat first | exact Mh | apply Mt) (Z18 rfl) rfl rfl SrZero (by show Ty.tup2 (.rep (StR N (readS (lx s)).1)) (.is (.int .i64 (readS (lx s)).2)) = _; rw [Ze0 hq (ZgB hbad)])
    intro z hz
    have hzs : z.2 <:+ (lx s).1 := Zgx (Z2p _) hz
    try dsimp only [nA, cA]
    refine JO.m (Z3 rfl rfl (by repeat first | exact .here | apply Ut) (by exact Z19 rfl rfl) (by exact Z2d) Zj) (by rfl) ?_
    apply Ni
    repeat first | apply Nx | apply Nb
    refine Sl [2, 3, 5] (.cons rfl (.cons rfl (.cons rfl .nil))) ?_
    repeat apply Sq
    apply Pn
    refine Jt (Z0 rfl) rfl ?_
    refine JO.callK (Lr := [_, _]) (Z9 ⟨(lx s).1, bb, oo, cap⟩ hlc b18 z.2 hzs Z1I) rfl (.refl _) (fun F hF => by repeat (first | (rcases Mc.1 hF with rfl | hF; · (repeat first | exact Mh | apply Mt)) | (cases hF; done))) (.one rfl (.one rfl .nil)) ?_
    intro _ _
    try dsimp only [nA, cA]
    apply Ni
    repeat first | apply Nx | apply Nb
    refine Sl [2, 3, 5] (.cons rfl (.cons rfl (.cons rfl .nil))) ?_
    repeat apply Sq
    apply Pn
    refine Jt (Z0 rfl) rfl ?_
    refine Jt (Z0 rfl) rfl ?_
    refine Jt (Z5 rfl) rfl ?_
    refine Jt (Z1 Zg rfl) rfl ?_
    refine Jt (Z4 Zs rfl rfl) rfl ?_
    refine Jt (Zq ZY rfl) rfl ?_
    refine Jt (Z1e rfl rfl) rfl ?_
    refine JO.callPK (Lr := _) (Z7 (.pointer (some ⟨b18, 0, none⟩)) _) rfl (Z1a _) (fun F hF => by repeat (first | (rcases Mc.1 hF with rfl | hF; · (repeat first | exact Mh | apply Mt)) | (cases hF; done))) (.one rfl (.one rfl .nil)) (fun hbad => ?_) ?_
    · (repeat (first | refine JX.pan_pass ?_ | refine JX.pan_block ?_))
      refine JX.panD (f := Z2m) (cap := [.pointer (some ⟨b2, 0, none⟩), .pointer (some ⟨b3, 0, none⟩)]) (L0 := [⟨b2, Zw, .rep (StR N z.1)⟩, ⟨b3, Z1B, .is (.int .i64 (lx s).2)⟩]) (Lr := [_]) (Zag b2 b3 _ Z2d _) rfl (List.reverse_perm _).symm ?_
      exact JX.retLCC (Lr := _) (L1 := fun _ : Unit => []) (A := .rep (StR N st0)) (B := .int .i64 30) (R := fun _ => .tup2 (.rep (StR N (readS (lx s)).1)) (.is (.int .i64 (readS (lx s)).2))) rfl () trivial (.refl _) rfl hb0 rfl rfl Z8 Z2f (by repeat first | exact Mh | apply Mt) (by repeat first | exact Mh | apply Mt) (Z18 rfl) rfl rfl SrZero (by show Ty.tup2 (.rep (StR N (readS (lx s)).1)) (.is (.int .i64 (readS (lx s)).2)) = _; rw [Ze0 hq (ZfJ hz (by simpa using hbad))])
    intro _ hw0
    try dsimp only [nA, cA]
    apply Ni
    repeat first | apply Nx | apply Nb
    refine Sl [2, 3] (.cons rfl (.cons rfl .nil)) ?_
    refine J.front b2 (by repeat (first | exact .here | apply Front.there)) ?_
    refine J.openOwnSt fun vc vn vr vi vf vw vg vo vs h1c => ?_
    have hwp : wholeP (lx s).1 = some z.1 := Zfi hz (by simpa using hw0)
    repeat apply Sq
    apply Pn
    refine JO.callK (Lr := [_, _]) (Zc7 N b2 z.1 vc vn vr vi vf vw vg vo vs (Zco hz) (fun x hx => Nat.le_trans (ZdO (Z2p _) (Za6 _) (Nat.le_refl _) hz x hx) (by omega))) rfl (.refl _) (fun F hF => by repeat (first | (rcases Mc.1 hF with rfl | hF; · (repeat first | exact Mh | apply Mt)) | (cases hF; done))) (.one rfl .nil) ?_
    intro _ _
    try dsimp only [nA, cA]
    apply Ni
    repeat first | apply Nx | apply Nb
    refine Sl [2, 3, 31] (.cons rfl (.cons rfl (.cons rfl .nil))) ?_
    repeat apply Sq
    refine Cd rfl (fun ht31 => ?_) (fun ht31 => ?_)
    ·
      try simp only [dT, dF] at ht31
      repeat apply Sq
      apply Pn
      refine Jt (Zv (cs := [_, _, _, _, _, _, _, _, _, _, _, _, _, _]) Z1X .nil rfl rfl) rfl ?_
      refine JO.m (Z3 rfl rfl (by repeat first | exact .here | apply Ut) (by exact Zat h1c) (by exact Z19 rfl rfl) Zj) (by rfl) ?_
      refine JO.m (Z3 rfl rfl (by repeat first | exact .here | apply Ut) (by first | exact cI rfl rfl | exact cE) (by first | exact cI rfl rfl | exact cE | exact cO) Z3x) (by rfl) ?_
      apply Ni
      repeat first | apply Nx | apply Nb
      refine Sl [2, 3] (.cons rfl (.cons rfl .nil)) ?_
      repeat apply Sq
      apply Rt
      repeat first | apply Rp | apply Rb
      refine JX.retD (f := Z2m) (cap := [.pointer (some ⟨b2, 0, none⟩), .pointer (some ⟨b3, 0, none⟩)]) (L0 := [⟨b2, Zw, zSt⟩, ⟨b3, Z1B, .is (.int .i64 31)⟩]) (Lr := [_]) (ZfE b2 b3 _ rfl _) (.cons _ (.swap _ _ _)) ?_
      exact JX.retLCC (Lr := _) (L1 := fun _ : Unit => []) (A := .rep (StR N st0)) (B := .int .i64 31) (R := fun _ => .tup2 (.rep (StR N (readS (lx s)).1)) (.is (.int .i64 (readS (lx s)).2))) rfl () trivial (.refl _) rfl hb0 rfl rfl Z8 Z2f (by repeat first | exact Mh | apply Mt) (by repeat first | exact Mh | apply Mt) (Z18 rfl) rfl rfl SrZero (by show Ty.tup2 (.rep (StR N (readS (lx s)).1)) (.is (.int .i64 (readS (lx s)).2)) = _; rw [Zj3 hq hwp ht31])
    ·
      try simp only [dT, dF] at ht31
      apply Sk
      repeat first | apply Nx | apply Nb
      repeat apply Sq
      apply Pn
      refine Jt (ZG (cs := [_, _, _, _, _, _, _, _, _, _, _, _, _, _]) Z8 rfl rfl rfl) rfl ?_
      refine JO.m (Z3 rfl rfl (by repeat first | exact .here | apply Ut) (by exact Zat h1c) (by exact Zat h1c) Zj) (by rfl) ?_
      refine JO.m (Z3 rfl rfl (by repeat first | exact .here | apply Ut) (by first | exact cI rfl rfl | exact cE) (by first | exact cI rfl rfl | exact cE | exact cO) Z3x) (by rfl) ?_
      apply Ni
      repeat first | apply Nx | apply Nb
      refine Sl [2, 3] (.cons rfl (.cons rfl .nil)) ?_
      repeat apply Sq
      apply Rt
      repeat first | apply Rp | apply Rb
      refine JX.retD (f := Z2m) (cap := [.pointer (some ⟨b2, 0, none⟩), .pointer (some ⟨b3, 0, none⟩)]) (L0 := [⟨b2, Zw, .is (stV z.1 vc vn vr vi vf vw vg vo vs)⟩, ⟨b3, Z1B, .is (.int .i64 0)⟩]) (Lr := [_]) (ZfE b2 b3 _ rfl _) (.cons _ (.swap _ _ _)) ?_
      exact JX.retLCC (Lr := _) (L1 := fun _ : Unit => []) (A := .rep (StR N z.1)) (B := .int .i64 0) (R := fun _ => .tup2 (.rep (StR N (readS (lx s)).1)) (.is (.int .i64 (readS (lx s)).2))) rfl () trivial (.refl _) rfl hb0 rfl rfl Z8 Z2f (by repeat first | exact Mh | apply Mt) (by repeat first | exact Mh | apply Mt) (Z18 rfl) rfl rfl (Sub.st rfl fun X w hf w' hk => ⟨hf _ (by repeat first | exact Mh | apply Mt) w' hk, hf _ (by repeat first | exact Mh | apply Mt) w' hk, hf _ (by repeat first | exact Mh | apply Mt) w' hk, hf _ (by repeat first | exact Mh | apply Mt) w' hk, hf _ (by repeat first | exact Mh | apply Mt) w' hk, hf _ (by repeat first | exact Mh | apply Mt) w' hk, hf _ (by repeat first | exact Mh | apply Mt) w' hk, hf _ (by repeat first | exact Mh | apply Mt) w' hk, hf _ (by repeat first | exact Mh | apply Mt) w' hk⟩) (by show Ty.tup2 (.rep (StR N (readS (lx s)).1)) (.is (.int .i64 (readS (lx s)).2)) = _; rw [Zip hq hwp ht31])
end Go.Proofs.YtbedigkncjbggaaGreatDoor
