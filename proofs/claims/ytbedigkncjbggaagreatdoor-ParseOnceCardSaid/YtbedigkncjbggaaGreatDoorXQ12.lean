/- The scanner: its four methods. No condition. -/
import Derived.Test.YtbedigkncjbggaaGreatDoorXQ11
import Derived.Test.YtbedigkncjbggaaGreatDoorXG3
set_option maxRecDepth 20000
namespace Go.Proofs.YtbedigkncjbggaaGreatDoor
open Go Go.Vc
theorem Zgv (p : UInt8 → Bool) (s : ByteArray) (i : Nat) : headP p (dr s i) = (decide ((i : Int) < s.size) && p (by_ s i)) := by
 by_cases h : i < s.size
 · rw [Z2n h, headP, decide_eq_true (by omega), Bool.true_and]
 · rw [Z7I (by omega), headP, decide_eq_false (by omega), Bool.false_and]
theorem Zdy {s : ByteArray} {n : Nat} (hn : n < s.size) (q : Nat) : tryL (dr s n) q = (decide (((n + q : Nat) : Int) ≤ s.size) && Lib.contains sgB.data.toList ((sp1 ++ s.extract n (n + q)) ++ sp1).data.toList) := by
 unfold tryL
 rw [Z5G, Z1i, Z7L]
 congr 1
 exact decide_eq_decide.2 ⟨fun h => by omega, fun h => by omega⟩
theorem ZhB {l : List UInt8} {i : Nat} (h : i < l.length) : l[i]? = some (l.getD i 0) := by simp [h]
theorem Z9U {α : Type} (f : α → UInt8 → α) {a : α} {l : List UInt8} {k : Nat} (h : k < l.length) : (l.take (k + 1)).foldl f a = f ((l.take k).foldl f a) (l.getD k 0) := by
 rw [List.take_add_one, List.foldl_append]
 simp [h]
theorem Z76 (s : ByteArray) (n : Nat) (hn : n < s.size) (hs : s.size ≤ 2048) : CallM Tryz.prog Z47 ZY (sv s n) [GF] [] (sv s (n + runN wordB (dr s n))) (.tup2 (.is (tv (wordL ((dr s n).take (runN wordB (dr s n)))).1)) (.is (.int .i64 (wordL ((dr s n).take (runN wordB (dr s n)))).2))) :=
CallM.of (fn := Tryz.f99) Tryz.func99 (n := 23) rfl rfl rfl (fun _ _ => by kernel_rfl) fun E W b0 => by
 repeat apply Sq
 apply Pn
 refine JO.alloc Z1V rfl fun b2 => ?_
 refine Jt (Z2 rfl) rfl ?_
 apply Ni
 repeat first | apply Nx | apply Nb
 refine Sl [0, 2] (.cons rfl (.cons rfl .nil)) ?_
 repeat apply Sq
 apply Pn
 refine Jt (Z0 rfl) rfl ?_
 refine JO.md (Z77 rfl rfl (Z4n wordB _ Zgr s n (by omega) (by omega)) (by repeat first | exact .here | apply Ut) (by simp) (.sub rfl (Sub.funT (fun _ => trivial)) .nil)) (by rfl) rfl ?_
 refine Jt (Z2 rfl) rfl ?_
 apply Ni
 repeat first | apply Nx | apply Nb
 refine Sl [2, 4] (.cons rfl (.cons rfl .nil)) ?_
 repeat apply Sq
 apply Pn
 refine Jt (Z0 rfl) rfl ?_
 refine Jt (ZW rfl (Z8k (s.extract n (n + runN wordB (dr s n))) (by have h1 := Z4x s n (runN wordB (dr s n)); omega) (Z9T s n)) (.one rfl .nil)) rfl ?_
 refine Jt (Z2 rfl) rfl ?_
 apply Ni
 repeat first | apply Nx | apply Nb
 refine Sl [2, 4, 5] (.cons rfl (.cons rfl (.cons rfl .nil))) ?_
 repeat apply Sq
 apply Pn
 refine Jt (Z0 rfl) rfl ?_
 refine Jt (Z6F rfl rfl (Zcf (by show (bl (Lib.toUpperA (s.extract n (n + runN wordB (dr s n))).data.toList)).size ≤ 2048; rw [Z6P, ZcC, Z1o]; have h1 := Z4x s n (runN wordB (dr s n)); omega))) rfl ?_
 refine Jt (Z6F rfl rfl (Zcy (by show (bl (Lib.toUpperA (s.extract n (n + runN wordB (dr s n))).data.toList)).size ≤ 2048; rw [Z6P, ZcC, Z1o]; have h1 := Z4x s n (runN wordB (dr s n)); omega))) rfl ?_
 refine Jt (Z2h rfl (Z4P kwB _ (by decide)) (by simp) (.one rfl (.one rfl .nil))) rfl ?_
 apply Ni
 repeat first | apply Nx | apply Nb
 refine Sl [2, 4, 5, 13] (.cons rfl (.cons rfl (.cons rfl (.cons rfl .nil)))) ?_
 repeat apply Sq
 refine Cd rfl (fun ht13 => ?_) (fun ht13 => ?_)
 ·
  try simp only [dT, dF] at ht13
  repeat apply Sq
  apply Pn
  refine Jt (Z0 rfl) rfl ?_
  refine Jt (Zs (cs := [_, _, _]) Z1d (.cons rfl (.cons rfl .nil)) rfl rfl) rfl ?_
  refine JO.m (Z3 rfl rfl (by repeat first | exact .here | apply Ut) (by first | exact cI rfl rfl | exact cE) (by first | exact cI rfl rfl | exact cE | exact cO) Z12) (by rfl) ?_
  refine Jt (Z2 rfl) rfl ?_
  apply Ni
  repeat first | apply Nx | apply Nb
  refine Sl [2, 3] (.cons rfl (.cons rfl .nil)) ?_
  repeat apply Sq
  apply Rt
  repeat first | apply Rp | apply Rb
  exact JX.retMC1is rfl HasOwn.mem rfl ZL HasOwn.mem rfl rfl (by have hc : (Lib.contains kwB.data.toList ((sp1 ++ ⟨(Lib.toUpperA (s.extract n (n + runN wordB (dr s n))).data.toList).toArray⟩) ++ sp1).data.toList) = Lib.contains kwB.data.toList (padL (Lib.toUpperA ((dr s n).take (runN wordB (dr s n))))) := (by rw [Z5G, Z5i, Z1i]); rw [hc] at ht13; unfold wordL; rw [if_pos ht13, Z1i]) (by have hc : (Lib.contains kwB.data.toList ((sp1 ++ ⟨(Lib.toUpperA (s.extract n (n + runN wordB (dr s n))).data.toList).toArray⟩) ++ sp1).data.toList) = Lib.contains kwB.data.toList (padL (Lib.toUpperA ((dr s n).take (runN wordB (dr s n))))) := (by rw [Z5G, Z5i, Z1i]); rw [hc] at ht13; unfold wordL; rw [if_pos ht13]) (by rfl)
 ·
  try simp only [dT, dF] at ht13
  apply Sk
  repeat first | apply Nx | apply Nb
  repeat apply Sq
  apply Pn
  refine Jt (Z0 rfl) rfl ?_
  refine Jt (Z3q Zo rfl) rfl ?_
  refine Jt (Z2t rfl rfl) rfl ?_
  apply Ni
  repeat first | apply Nx | apply Nb
  refine Sl [2, 4, 18] (.cons rfl (.cons rfl (.cons rfl .nil))) ?_
  repeat apply Sq
  refine Cd rfl (fun ht18 => ?_) (fun ht18 => ?_)
  ·
   try simp only [dT, dF] at ht18
   repeat apply Sq
   apply Pn
   refine Jt (Zs (cs := [_, _, _]) Z1d .nil rfl rfl) rfl ?_
   refine JO.m (Z3 rfl rfl (by repeat first | exact .here | apply Ut) (by first | exact cI rfl rfl | exact cE) (by first | exact cI rfl rfl | exact cE | exact cO) Z12) (by rfl) ?_
   refine Jt (Z2 rfl) rfl ?_
   apply Ni
   repeat first | apply Nx | apply Nb
   refine Sl [2, 3] (.cons rfl (.cons rfl .nil)) ?_
   repeat apply Sq
   apply Rt
   repeat first | apply Rp | apply Rb
   exact JX.retMC1is rfl HasOwn.mem rfl ZL HasOwn.mem rfl rfl (by have hc : (Lib.contains kwB.data.toList ((sp1 ++ ⟨(Lib.toUpperA (s.extract n (n + runN wordB (dr s n))).data.toList).toArray⟩) ++ sp1).data.toList) = Lib.contains kwB.data.toList (padL (Lib.toUpperA ((dr s n).take (runN wordB (dr s n))))) := (by rw [Z5G, Z5i, Z1i]); rw [hc] at ht13; have hl : ((s.extract n (n + runN wordB (dr s n))).size : Int) = (((dr s n).take (runN wordB (dr s n))).length : Int) := (by rw [← Z1o, Z1i]); rw [hl] at ht18; unfold wordL; rw [if_neg (by rw [ht13]; simp), if_pos (decide_eq_true ht18)]; rfl) (by have hc : (Lib.contains kwB.data.toList ((sp1 ++ ⟨(Lib.toUpperA (s.extract n (n + runN wordB (dr s n))).data.toList).toArray⟩) ++ sp1).data.toList) = Lib.contains kwB.data.toList (padL (Lib.toUpperA ((dr s n).take (runN wordB (dr s n))))) := (by rw [Z5G, Z5i, Z1i]); rw [hc] at ht13; have hl : ((s.extract n (n + runN wordB (dr s n))).size : Int) = (((dr s n).take (runN wordB (dr s n))).length : Int) := (by rw [← Z1o, Z1i]); rw [hl] at ht18; unfold wordL; rw [if_neg (by rw [ht13]; simp), if_pos (decide_eq_true ht18)]) (by rfl)
  ·
   try simp only [dT, dF] at ht18
   apply Sk
   repeat first | apply Nx | apply Nb
   repeat apply Sq
   apply Pn
   refine Jt (Z0 rfl) rfl ?_
   refine Jt (ZW rfl (Z8f (s.extract n (n + runN wordB (dr s n))) (by have h1 := Z4x s n (runN wordB (dr s n)); omega) (Z9T s n)) (.one rfl .nil)) rfl ?_
   refine Jt (Zs (cs := [_, _, _]) Z1d (.cons rfl (.cons rfl .nil)) rfl rfl) rfl ?_
   refine JO.m (Z3 rfl rfl (by repeat first | exact .here | apply Ut) (by first | exact cI rfl rfl | exact cE) (by first | exact cI rfl rfl | exact cE | exact cO) Z12) (by rfl) ?_
   refine Jt (Z2 rfl) rfl ?_
   apply Ni
   repeat first | apply Nx | apply Nb
   refine Sl [2, 3] (.cons rfl (.cons rfl .nil)) ?_
   repeat apply Sq
   apply Rt
   repeat first | apply Rp | apply Rb
   exact JX.retMC1is rfl HasOwn.mem rfl ZL HasOwn.mem rfl rfl (by have hc : (Lib.contains kwB.data.toList ((sp1 ++ ⟨(Lib.toUpperA (s.extract n (n + runN wordB (dr s n))).data.toList).toArray⟩) ++ sp1).data.toList) = Lib.contains kwB.data.toList (padL (Lib.toUpperA ((dr s n).take (runN wordB (dr s n))))) := (by rw [Z5G, Z5i, Z1i]); rw [hc] at ht13; have hl : ((s.extract n (n + runN wordB (dr s n))).size : Int) = (((dr s n).take (runN wordB (dr s n))).length : Int) := (by rw [← Z1o, Z1i]); rw [hl] at ht18; unfold wordL; rw [if_neg (by rw [ht13]; simp), if_neg (by rw [decide_eq_false ht18]; simp), Z1i]) (by have hc : (Lib.contains kwB.data.toList ((sp1 ++ ⟨(Lib.toUpperA (s.extract n (n + runN wordB (dr s n))).data.toList).toArray⟩) ++ sp1).data.toList) = Lib.contains kwB.data.toList (padL (Lib.toUpperA ((dr s n).take (runN wordB (dr s n))))) := (by rw [Z5G, Z5i, Z1i]); rw [hc] at ht13; have hl : ((s.extract n (n + runN wordB (dr s n))).size : Int) = (((dr s n).take (runN wordB (dr s n))).length : Int) := (by rw [← Z1o, Z1i]); rw [hl] at ht18; unfold wordL; rw [if_neg (by rw [ht13]; simp), if_neg (by rw [decide_eq_false ht18]; simp)]) (by rfl)
theorem Z6h (s : ByteArray) (n : Nat) (hn : n < s.size) (hs : s.size ≤ 2048) : CallM Tryz.prog Z3E ZY (sv s n) [GF] [] (sv s (n + runN digB (dr s n))) (.tup2 (.is (tv (numL (dr s n)).1)) (.is (.int .i64 (numL (dr s n)).2))) :=
CallM.of (fn := Tryz.f101) Tryz.func101 (n := 58) rfl rfl rfl (fun _ _ => by kernel_rfl) fun E W b0 => by
 repeat apply Sq
 apply Pn
 refine JO.alloc Z1V rfl fun b2 => ?_
 refine Jt (Z2 rfl) rfl ?_
 apply Ni
 repeat first | apply Nx | apply Nb
 refine Sl [0, 2] (.cons rfl (.cons rfl .nil)) ?_
 repeat apply Sq
 apply Pn
 refine Jt (Z2 rfl) rfl ?_
 refine Jt (Z2 rfl) rfl ?_
 apply Ni
 repeat first | apply Nx | apply Nb
 refine Sl [0, 2, 4, 5] (.cons rfl (.cons rfl (.cons rfl (.cons rfl .nil)))) ?_
 have hbl : ((dr s n).take (runN digB (dr s n))).length ≤ 2048 := by rw [List.length_take, Z7L]; omega
 repeat apply Sq
 apply Pn
 refine Jt (Z0 rfl) rfl ?_
 refine JO.md (Z77 rfl rfl (Z4n digB _ ZfJ s n (by omega) (by omega)) (by repeat first | exact .here | apply Ut) (by simp) (.sub rfl (Sub.funT (fun _ => trivial)) .nil)) (by rfl) rfl ?_
 refine Jt (Zfk Zo Z34 Z8L rfl) rfl ?_
 refine JO.openSl (s := 11) rfl (fun a len cap bb bo hlen ha => ?_)
 have hlen2 : ((dr s n).take (runN digB (dr s n))).length = len := (by rw [← hlen, Z1i])
 subst hlen2
 refine Jt (ZG Z34 rfl) rfl ?_
 refine Jt (Z0 rfl) rfl ?_
 apply Ni
 repeat first | apply Nx | apply Nb
 refine Sl [0, 2, 4, 5, 11, 12, 13] (.cons rfl (.cons rfl (.cons rfl (.cons rfl (.cons rfl (.cons rfl (.cons rfl .nil))))))) ?_
 repeat apply Sq
 apply Bk
 repeat apply Sq
 refine J.loopG (α := Nat × Int × Int) (fun z => [(0, .is (.pointer (some ⟨b0, 0, none⟩))), (2, .is (.pointer (some ⟨b2, 0, none⟩))), (4, .is (.int .i64 z.2.1)), (5, .is (.int .i64 z.2.2)), (11, .is (.slice a ((dr s n).take (runN digB (dr s n))).length cap)), (12, .is (.int .i64 (((dr s n).take (runN digB (dr s n))).length : Nat))), (13, .is (.int .i64 (z.1 : Nat)))]) (fun z => [⟨b2, Z1J, .is (tv t3D)⟩, ⟨b0, ZY, .is (sv s (n + runN digB (dr s n)))⟩]) (fun z => fun _ => True) (fun z => z.1 ≤ ((dr s n).take (runN digB (dr s n))).length ∧ (((dr s n).take (runN digB (dr s n))).take z.1).foldl numStep (0, 0) = z.2) (fun z => ((dr s n).take (runN digB (dr s n))).length - z.1) (0, 0, 0) [0, 2, 4, 5, 11, 12, 13] (.cons rfl (.cons rfl (.cons rfl (.cons rfl (.cons rfl (.cons rfl (.cons rfl .nil))))))) rfl (fun _ => trivial) ⟨by omega, rfl⟩ fun ⟨k, m, e⟩ ⟨hk, hf⟩ => ?_
 try dsimp only
 try dsimp only at m
 try dsimp only at e
 try dsimp only at hk
 try dsimp only at hf
 repeat apply Sq
 apply Pn
 refine Jt (Z1Q rfl rfl) rfl ?_
 apply Ni
 repeat first | apply Nx | apply Nb
 refine Sl [0, 2, 4, 5, 11, 12, 13, 14] (.cons rfl (.cons rfl (.cons rfl (.cons rfl (.cons rfl (.cons rfl (.cons rfl (.cons rfl .nil)))))))) ?_
 repeat apply Sq
 refine Cd rfl (fun ht14 => ?_) (fun ht14 => ?_)
 ·
  try simp only [dT, dF] at ht14
  apply Sk
  repeat first | apply Nx | apply Nb
  repeat apply Sq
  apply Bk
  repeat apply Sq
  apply Pn
  refine Jt (Zj ZbV rfl (ha (by omega)) rfl (by omega) (by omega)) rfl ?_
  refine Jt (Z1n (enc := bC) (sz := 1) (xs := (s.extract n (n + runN digB (dr s n))).data.toList) (len := ((dr s n).take (runN digB (dr s n))).length) (i := k) (j := 0) (y := ((dr s n).take (runN digB (dr s n))).getD k 0) Zfv rfl (by repeat first | exact Mh | apply Mt) (ha (by omega)) (by rw [Z1i]; exact ZhB (by omega)) (by simp) rfl) rfl ?_
  refine Jt (Z2 rfl) rfl ?_
  apply Ni
  repeat first | apply Nx | apply Nb
  refine Sl [0, 2, 4, 5, 7, 11, 12, 13] (.cons rfl (.cons rfl (.cons rfl (.cons rfl (.cons rfl (.cons rfl (.cons rfl (.cons rfl .nil)))))))) ?_
  repeat apply Sq
  apply Pn
  refine Jt (Z0 rfl) rfl ?_
  refine Jt (Zbs rfl rfl) rfl ?_
  refine Jt (ZdU ⟨_, Z8L⟩ Zfw rfl) rfl ?_
  refine Jt (Z2 rfl) rfl ?_
  apply Ni
  repeat first | apply Nx | apply Nb
  refine Sl [0, 2, 4, 5, 8, 11, 12, 13] (.cons rfl (.cons rfl (.cons rfl (.cons rfl (.cons rfl (.cons rfl (.cons rfl (.cons rfl .nil)))))))) ?_
  repeat apply Sq
  apply Pn
  refine Jt (Z0 rfl) rfl ?_
  refine Jt (Z0 rfl) rfl ?_
  refine Jt (Zbs rfl rfl) rfl ?_
  refine Jt (ZhG rfl rfl (by decide)) rfl ?_
  refine Jt (Z2t rfl rfl) rfl ?_
  apply Ni
  repeat first | apply Nx | apply Nb
  refine Sl [0, 2, 4, 5, 8, 11, 12, 13, 24] (.cons rfl (.cons rfl (.cons rfl (.cons rfl (.cons rfl (.cons rfl (.cons rfl (.cons rfl (.cons rfl .nil))))))))) ?_
  repeat apply Sq
  refine Cd rfl (fun ht24 => ?_) (fun ht24 => ?_)
  ·
   try simp only [dT, dF] at ht24
   repeat apply Sq
   apply Pn
   refine Jt (Z2 rfl) rfl ?_
   apply Ni
   repeat first | apply Nx | apply Nb
   refine Sl [0, 2, 4, 5, 8, 11, 12, 13] (.cons rfl (.cons rfl (.cons rfl (.cons rfl (.cons rfl (.cons rfl (.cons rfl (.cons rfl .nil)))))))) ?_
   repeat apply Sq
   apply Pn
   refine Jt (Z0 rfl) rfl ?_
   refine Jt (Zec rfl rfl) rfl ?_
   refine Jt (Z0 rfl) rfl ?_
   refine Jt (Z95 rfl rfl) rfl ?_
   refine Jt (Z2 rfl) rfl ?_
   apply Ni
   repeat first | apply Nx | apply Nb
   refine Sl [0, 2, 4, 5, 11, 12, 13] (.cons rfl (.cons rfl (.cons rfl (.cons rfl (.cons rfl (.cons rfl (.cons rfl .nil))))))) ?_
   repeat apply Sq
   apply Pn
   refine Jt (Z17 (cc := ((k + 1 : Nat) : Int)) rfl rfl (by omega) (by omega) (by omega)) rfl ?_
   refine Jt (Z0 rfl) rfl ?_
   apply Ni
   repeat refine JX.normal_block ?_
   refine JX.roundG (x := ⟨k, m, e⟩) (k + 1, (numStep (m, e) (((dr s n).take (runN digB (dr s n))).getD k 0)).1, 35) ?_ ?_ [0, 2, 4, 5, 11, 12, 13] ?_ ?_ ?_ ?_
   · exact ⟨by omega, by rw [Z9U numStep (by omega), hf]; simp only [numStep]; rw [if_pos (decide_eq_true ht24)]⟩
   · exact (by simp only; omega)
   · exact (.cons rfl (.cons rfl (.cons rfl (.cons rfl (.cons rfl (.cons rfl (.cons rfl .nil)))))))
   · repeat (first | exact .all | exact .nil | refine Has.own (by repeat first | exact .here | apply Tl.past | apply Tl.there) ?_ | refine Has.cons (by repeat (first | exact .here | apply Pk.past | apply Pk.there)) ?_)
   · exact fun G hG => by repeat (first | exact hG | refine List.mem_cons_of_mem _ ?_)
   · exact fun _ _ _ => fun _ _ => trivial
  ·
   try simp only [dT, dF] at ht24
   apply Sk
   repeat first | apply Nx | apply Nb
   repeat apply Sq
   apply Pn
   refine Jt (Z0 rfl) rfl ?_
   refine Jt (Zec rfl rfl) rfl ?_
   refine Jt (Z0 rfl) rfl ?_
   refine Jt (Z95 rfl rfl) rfl ?_
   refine Jt (Z2 rfl) rfl ?_
   apply Ni
   repeat first | apply Nx | apply Nb
   refine Sl [0, 2, 4, 5, 11, 12, 13] (.cons rfl (.cons rfl (.cons rfl (.cons rfl (.cons rfl (.cons rfl (.cons rfl .nil))))))) ?_
   repeat apply Sq
   apply Pn
   refine Jt (Z17 (cc := ((k + 1 : Nat) : Int)) rfl rfl (by omega) (by omega) (by omega)) rfl ?_
   refine Jt (Z0 rfl) rfl ?_
   apply Ni
   repeat refine JX.normal_block ?_
   refine JX.roundG (x := ⟨k, m, e⟩) (k + 1, (numStep (m, e) (((dr s n).take (runN digB (dr s n))).getD k 0)).1, e) ?_ ?_ [0, 2, 4, 5, 11, 12, 13] ?_ ?_ ?_ ?_
   · exact ⟨by omega, by rw [Z9U numStep (by omega), hf]; simp only [numStep]; rw [if_neg (by rw [decide_eq_false ht24]; simp)]⟩
   · exact (by simp only; omega)
   · exact (.cons rfl (.cons rfl (.cons rfl (.cons rfl (.cons rfl (.cons rfl (.cons rfl .nil)))))))
   · repeat (first | exact .all | exact .nil | refine Has.own (by repeat first | exact .here | apply Tl.past | apply Tl.there) ?_ | refine Has.cons (by repeat (first | exact .here | apply Pk.past | apply Pk.there)) ?_)
   · exact fun G hG => by repeat (first | exact hG | refine List.mem_cons_of_mem _ ?_)
   · exact fun _ _ _ => fun _ _ => trivial
 ·
  try simp only [dT, dF] at ht14
  repeat apply Sq
  refine J.exit ?_
  repeat first | refine Ht ?_ | refine Ms rfl ?_ | refine Ep ?_
  repeat first | apply Nx | apply Nb
  have hfe : ((dr s n).take (runN digB (dr s n))).foldl numStep (0, 0) = (m, e) := (by have h1 : ((dr s n).take (runN digB (dr s n))).take k = ((dr s n).take (runN digB (dr s n))) := List.take_of_length_le (by omega); rw [h1] at hf; exact hf)
  have hh : headP letB ((dr s n).drop (runN digB (dr s n))) = (decide (((n + runN digB (dr s n) : Nat) : Int) < s.size) && letterF (sb s (n + runN digB (dr s n)))) := by rw [Z6B]; exact Zgv letB s _
  repeat apply Sq
  refine J.reg0 hmx (by kernel_rfl) (by kernel_rfl) ?_
  refine Rq (Z0 rfl) ?_
  refine Rq (Z5 rfl) ?_
  refine Rq (Z1 Zc rfl) ?_
  refine Rq (Z7 Zz rfl rfl) ?_
  refine Rq (Z0 rfl) ?_
  refine Rq (Z5 rfl) ?_
  refine Rq (Z1 Zx rfl) ?_
  refine Rq (Z7 ZB rfl rfl) ?_
  refine Rq (Z3q Zo rfl) ?_
  refine Rq (Z1Q rfl rfl) ?_
  refine Rq (Z0 rfl) ?_
  refine Rg rfl rfl rfl (fun hg => Z0 (.inl rfl)) ?_
  refine Rg rfl rfl rfl (fun hg => Z5 (.inr ⟨_, rfl, id⟩)) ?_
  refine Rg rfl rfl rfl (fun hg => Z1 Zx (.inr ⟨_, rfl, id⟩)) ?_
  refine Rg rfl rfl rfl (fun hg => Z7 ZB (.inr ⟨_, rfl, id⟩) rfl) ?_
  refine Rg rfl rfl rfl (fun hg => Z0 (.inl rfl)) ?_
  refine Rg rfl rfl rfl (fun hg => Z5 (.inr ⟨_, rfl, id⟩)) ?_
  refine Rg rfl rfl rfl (fun hg => Z1 Zc (.inr ⟨_, rfl, id⟩)) ?_
  refine Rg rfl rfl rfl (fun hg => Z7 Zz (.inr ⟨_, rfl, id⟩) rfl) ?_
  refine Rg rfl rfl rfl (fun hg => Z2S Zo (.inr ⟨_, rfl, id⟩) (.inr ⟨_, rfl, id⟩) (by have h := hg; simp only [decide_eq_true_eq] at h; omega) (by have h := hg; simp only [decide_eq_true_eq] at h; omega)) ?_
  refine Rg rfl rfl rfl (fun hg => ZW (.inl rfl) (Z5p (sb s (n + runN digB (dr s n)))) (.one (.inr ⟨_, rfl, id⟩) .nil)) ?_
  refine Rq (ZK rfl rfl rfl id) ?_
  apply Rn
  refine FinS.nil0 ?_
  repeat first | apply Nx | apply Nb
  refine Sl [2, 4, 5, 51] (.cons rfl (.cons rfl (.cons rfl (.cons rfl .nil)))) ?_
  repeat apply Sq
  refine Cd rfl (fun ht51 => ?_) (fun ht51 => ?_)
  ·
   try simp only [dT, dF] at ht51
   repeat apply Sq
   apply Pn
   refine Jt (Z2 rfl) rfl ?_
   apply Ni
   repeat first | apply Nx | apply Nb
   refine Sl [2, 4, 5] (.cons rfl (.cons rfl (.cons rfl .nil))) ?_
   repeat apply Sq
   apply Pn
   refine Jt (Z0 rfl) rfl ?_
   refine Jt (Z1C rfl rfl) rfl ?_
   apply Ni
   repeat first | apply Nx | apply Nb
   refine Sl [2, 4, 5, 53] (.cons rfl (.cons rfl (.cons rfl (.cons rfl .nil)))) ?_
   repeat apply Sq
   refine Cd rfl (fun ht53 => ?_) (fun ht53 => ?_)
   ·
    try simp only [dT, dF] at ht53
    repeat apply Sq
    apply Pn
    refine Jt (Zs (cs := [_, _, _]) Z1d .nil rfl rfl) rfl ?_
    refine Jt (Z0 rfl) rfl ?_
    refine JO.m (Z3 rfl rfl (by repeat first | exact .here | apply Ut) (by first | exact cI rfl rfl | exact cE) (by first | exact cI rfl rfl | exact cE | exact cO) Z12) (by rfl) ?_
    refine Jt (Z2 rfl) rfl ?_
    apply Ni
    repeat first | apply Nx | apply Nb
    refine Sl [2, 3] (.cons rfl (.cons rfl .nil)) ?_
    repeat apply Sq
    apply Rt
    repeat first | apply Rp | apply Rb
    exact JX.retMC1is rfl HasOwn.mem rfl ZL HasOwn.mem rfl rfl (by have hE : numE (dr s n) = 30 := (by unfold numE; rw [hh]; rw [if_pos ht51]); unfold numL; rw [hE, if_pos ht53]; rfl) (by have hE : numE (dr s n) = 30 := (by unfold numE; rw [hh]; rw [if_pos ht51]); unfold numL; rw [hE, if_pos ht53]) (by rfl)
   ·
    try simp only [dT, dF] at ht53
    apply Sk
    repeat first | apply Nx | apply Nb
    repeat apply Sq
    apply Pn
    refine Jt (Z0 rfl) rfl ?_
    refine Jt (Zs (cs := [_, _, _]) Z1d (.cons rfl (.cons rfl .nil)) rfl rfl) rfl ?_
    refine JO.m (Z3 rfl rfl (by repeat first | exact .here | apply Ut) (by first | exact cI rfl rfl | exact cE) (by first | exact cI rfl rfl | exact cE | exact cO) Z12) (by rfl) ?_
    refine Jt (Z2 rfl) rfl ?_
    apply Ni
    repeat first | apply Nx | apply Nb
    refine Sl [2, 3] (.cons rfl (.cons rfl .nil)) ?_
    repeat apply Sq
    apply Rt
    repeat first | apply Rp | apply Rb
    exact JX.retMC1is rfl HasOwn.mem rfl ZL HasOwn.mem rfl rfl (by have hE : numE (dr s n) = 30 := (by unfold numE; rw [hh]; rw [if_pos ht51]); unfold numL; rw [hE, if_neg (by rw [ht53]; simp), hfe]) (by have hE : numE (dr s n) = 30 := (by unfold numE; rw [hh]; rw [if_pos ht51]); unfold numL; rw [hE, if_neg (by rw [ht53]; simp)]) (by rfl)
  ·
   try simp only [dT, dF] at ht51
   apply Sk
   repeat first | apply Nx | apply Nb
   repeat apply Sq
   apply Pn
   refine Jt (Z0 rfl) rfl ?_
   refine Jt (Z1C rfl rfl) rfl ?_
   apply Ni
   repeat first | apply Nx | apply Nb
   refine Sl [2, 4, 5, 53] (.cons rfl (.cons rfl (.cons rfl (.cons rfl .nil)))) ?_
   repeat apply Sq
   refine Cd rfl (fun ht53 => ?_) (fun ht53 => ?_)
   ·
    try simp only [dT, dF] at ht53
    repeat apply Sq
    apply Pn
    refine Jt (Zs (cs := [_, _, _]) Z1d .nil rfl rfl) rfl ?_
    refine Jt (Z0 rfl) rfl ?_
    refine JO.m (Z3 rfl rfl (by repeat first | exact .here | apply Ut) (by first | exact cI rfl rfl | exact cE) (by first | exact cI rfl rfl | exact cE | exact cO) Z12) (by rfl) ?_
    refine Jt (Z2 rfl) rfl ?_
    apply Ni
    repeat first | apply Nx | apply Nb
    refine Sl [2, 3] (.cons rfl (.cons rfl .nil)) ?_
    repeat apply Sq
    apply Rt
    repeat first | apply Rp | apply Rb
    exact JX.retMC1is rfl HasOwn.mem rfl ZL HasOwn.mem rfl rfl (by have hE : numE (dr s n) = e := (by unfold numE; rw [hh]; rw [if_neg (by rw [ht51]; simp), hfe]); unfold numL; rw [hE, if_pos ht53]; rfl) (by have hE : numE (dr s n) = e := (by unfold numE; rw [hh]; rw [if_neg (by rw [ht51]; simp), hfe]); unfold numL; rw [hE, if_pos ht53]) (by rfl)
   ·
    try simp only [dT, dF] at ht53
    apply Sk
    repeat first | apply Nx | apply Nb
    repeat apply Sq
    apply Pn
    refine Jt (Z0 rfl) rfl ?_
    refine Jt (Zs (cs := [_, _, _]) Z1d (.cons rfl (.cons rfl .nil)) rfl rfl) rfl ?_
    refine JO.m (Z3 rfl rfl (by repeat first | exact .here | apply Ut) (by first | exact cI rfl rfl | exact cE) (by first | exact cI rfl rfl | exact cE | exact cO) Z12) (by rfl) ?_
    refine Jt (Z2 rfl) rfl ?_
    apply Ni
    repeat first | apply Nx | apply Nb
    refine Sl [2, 3] (.cons rfl (.cons rfl .nil)) ?_
    repeat apply Sq
    apply Rt
    repeat first | apply Rp | apply Rb
    exact JX.retMC1is rfl HasOwn.mem rfl ZL HasOwn.mem rfl rfl (by have hE : numE (dr s n) = e := (by unfold numE; rw [hh]; rw [if_neg (by rw [ht51]; simp), hfe]); unfold numL; rw [hE, if_neg (by rw [ht53]; simp), hfe]) (by have hE : numE (dr s n) = e := (by unfold numE; rw [hh]; rw [if_neg (by rw [ht51]; simp), hfe]); unfold numL; rw [hE, if_neg (by rw [ht53]; simp)]) (by rfl)
theorem Z7c (s : ByteArray) (n : Nat) (hn : n < s.size) (hs : s.size ≤ 2048) : CallM Tryz.prog Z4j ZY (sv s n) [GF] [] (sv s (n + (signL (dr s n)).2)) (.tup2 (.is (tv (signL (dr s n)).1.1)) (.is (.int .i64 (signL (dr s n)).1.2))) :=
CallM.of (fn := Tryz.f103) Tryz.func103 (n := 66) rfl rfl rfl (fun _ _ => by kernel_rfl) fun E W b0 => by
  repeat apply Sq
  apply Pn
  refine JO.alloc Z1V rfl fun b2 => ?_
  refine Jt (Z2 rfl) rfl ?_
  apply Ni
  repeat first | apply Nx | apply Nb
  refine Sl [0, 2] (.cons rfl (.cons rfl .nil)) ?_
  repeat apply Sq
  apply Pn
  refine Jt (Z2 rfl) rfl ?_
  apply Ni
  repeat first | apply Nx | apply Nb
  refine Sl [0, 2, 4] (.cons rfl (.cons rfl (.cons rfl .nil))) ?_
  repeat apply Sq
  apply Bk
  repeat apply Sq
  refine J.loopG (α := Nat) (fun q => [(0, .is (.pointer (some ⟨b0, 0, none⟩))), (2, .is (.pointer (some ⟨b2, 0, none⟩))), (4, .is (.int .i64 (q : Nat)))]) (fun q => [⟨b2, Z1J, .is (tv t3D)⟩, ⟨b0, ZY, .is (sv s n)⟩]) (fun q => fun _ => True) (fun q => q ≤ 2 ∧ (q < 2 → tryL (dr s n) 2 = false) ∧ (q < 1 → tryL (dr s n) 1 = false)) (fun q => q) 2 [0, 2, 4] (.cons rfl (.cons rfl (.cons rfl .nil))) rfl (fun _ => trivial) ⟨by omega, fun h => absurd h (by omega), fun h => absurd h (by omega)⟩ fun q ⟨hq, h2, h1⟩ => ?_
  try dsimp only
  try dsimp only at hq
  try dsimp only at h2
  try dsimp only at h1
  repeat apply Sq
  apply Pn
  refine Jt (Z0 rfl) rfl ?_
  refine Jt (Z2t rfl rfl) rfl ?_
  apply Ni
  repeat first | apply Nx | apply Nb
  refine Sl [0, 2, 4, 6] (.cons rfl (.cons rfl (.cons rfl (.cons rfl .nil)))) ?_
  repeat apply Sq
  refine Cd rfl (fun ht6 => ?_) (fun ht6 => ?_)
  ·
    try simp only [dT, dF] at ht6
    apply Sk
    repeat first | apply Nx | apply Nb
    repeat apply Sq
    apply Bk
    repeat apply Sq
    refine J.reg0 hmx (by kernel_rfl) (by kernel_rfl) ?_
    refine Rq (Z0 rfl) ?_
    refine Rq (Z5 rfl) ?_
    refine Rq (Z1 Zc rfl) ?_
    refine Rq (Z7 Zz rfl rfl) ?_
    refine Rq (Z0 rfl) ?_
    refine Rq (Z17 (cc := ((n + q : Nat) : Int)) rfl rfl (by omega) (by omega) (by omega)) ?_
    refine Rq (Z0 rfl) ?_
    refine Rq (Z5 rfl) ?_
    refine Rq (Z1 Zx rfl) ?_
    refine Rq (Z7 ZB rfl rfl) ?_
    refine Rq (Z3q Zo rfl) ?_
    refine Rq (Z3F rfl rfl) ?_
    refine Rq (Z0 rfl) ?_
    refine Rg rfl rfl rfl (fun hg => Z0 (.inl rfl)) ?_
    refine Rg rfl rfl rfl (fun hg => Z5 (.inr ⟨_, rfl, id⟩)) ?_
    refine Rg rfl rfl rfl (fun hg => Z1 Zx (.inr ⟨_, rfl, id⟩)) ?_
    refine Rg rfl rfl rfl (fun hg => Z7 ZB (.inr ⟨_, rfl, id⟩) rfl) ?_
    refine Rg rfl rfl rfl (fun hg => Z0 (.inl rfl)) ?_
    refine Rg rfl rfl rfl (fun hg => Z5 (.inr ⟨_, rfl, id⟩)) ?_
    refine Rg rfl rfl rfl (fun hg => Z1 Zc (.inr ⟨_, rfl, id⟩)) ?_
    refine Rg rfl rfl rfl (fun hg => Z7 Zz (.inr ⟨_, rfl, id⟩) rfl) ?_
    refine Rg rfl rfl rfl (fun hg => Z0 (.inl rfl)) ?_
    refine Rg rfl rfl rfl (fun hg => Z5 (.inr ⟨_, rfl, id⟩)) ?_
    refine Rg rfl rfl rfl (fun hg => Z1 Zc (.inr ⟨_, rfl, id⟩)) ?_
    refine Rg rfl rfl rfl (fun hg => Z7 Zz (.inr ⟨_, rfl, id⟩) rfl) ?_
    refine Rg rfl rfl rfl (fun hg => Z0 (.inl rfl)) ?_
    refine Rg rfl rfl rfl (fun hg => Z17 (cc := ((n + q : Nat) : Int)) (.inr ⟨_, rfl, id⟩) (.inr ⟨_, rfl, id⟩) (by omega) (by omega) (by omega)) ?_
    refine Rg rfl rfl rfl (fun hg => Z7Z Zo (.inr ⟨_, rfl, id⟩) (.inr ⟨_, rfl, id⟩) (.inr ⟨_, rfl, id⟩) (by omega) (by omega) (by have h := hg; simp only [decide_eq_true_eq] at h; omega)) ?_
    refine Rg rfl rfl rfl (fun hg => Z6F (.inl rfl) (.inr ⟨_, rfl, id⟩) (Zcf (by have h1 := Z4x s n q; show (s.extract n (n + q)).size ≤ 2048; omega))) ?_
    refine Rg rfl rfl rfl (fun hg => Z6F (.inr ⟨_, rfl, id⟩) (.inl rfl) (Zcy (by have h1 := Z4x s n q; show (s.extract n (n + q)).size ≤ 2048; omega))) ?_
    refine Rg rfl rfl rfl (fun hg => Z2h (.inl rfl) (Z4P sgB ((sp1 ++ s.extract n (n + q)) ++ sp1) (by decide)) (by simp) (.one (.inl rfl) (.one (.inr ⟨_, rfl, id⟩) .nil))) ?_
    refine Rq (ZK rfl rfl rfl id) ?_
    apply Rn
    refine FinS.nil0 ?_
    repeat first | apply Nx | apply Nb
    refine Sl [0, 2, 4, 40] (.cons rfl (.cons rfl (.cons rfl (.cons rfl .nil)))) ?_
    repeat apply Sq
    refine Cd rfl (fun ht40 => ?_) (fun ht40 => ?_)
    ·
      try simp only [dT, dF] at ht40
      have ht1 : tryL (dr s n) q = true := (Zdy hn q).trans ht40
      have hsg : signL (dr s n) = ((⟨5, bl ((dr s n).take q), 0⟩, 0), q) := by
        unfold signL
        rcases (show q = 1 ∨ q = 2 by omega) with rfl | rfl
        · rw [if_neg (by rw [h2 (by omega)]; simp), if_pos ht1]
        · rw [if_pos ht1]
      have hfit : n + q ≤ s.size := by have h := ht40; simp only [Bool.and_eq_true, decide_eq_true_eq] at h; omega
      repeat apply Sq
      apply Pn
      refine Jt (Z0 rfl) rfl ?_
      refine Jt (Z5 rfl) rfl ?_
      refine Jt (Z1 Zc rfl) rfl ?_
      refine Jt (Z7 Zz rfl rfl) rfl ?_
      refine Jt (Z0 rfl) rfl ?_
      refine Jt (Z17 (cc := ((n + q : Nat) : Int)) rfl rfl (by omega) (by omega) (by omega)) rfl ?_
      refine Jt (Z5 rfl) rfl ?_
      refine Jt (Z1 Zc rfl) rfl ?_
      refine JO.m (Zf (cs' := [_, _]) rfl rfl (by repeat first | exact .here | apply Ut) rfl rfl rfl rfl Z2K) (by rfl) ?_
      apply Ni
      repeat first | apply Nx | apply Nb
      refine Sl [0, 2, 4] (.cons rfl (.cons rfl (.cons rfl .nil))) ?_
      repeat apply Sq
      refine J.front b2 (by repeat (first | exact .here | apply Front.there)) ?_
      refine J.reg1 hmx (by kernel_rfl) (by kernel_rfl) ?_
      refine Rq (Z0 rfl) ?_
      refine Rq (Z5 rfl) ?_
      refine Rq (Z1 Zx rfl) ?_
      refine Rq (Z7 ZB rfl rfl) ?_
      refine Rq (Z0 rfl) ?_
      refine Rq (Z5 rfl) ?_
      refine Rq (Z1 Zc rfl) ?_
      refine Rq (Z7 Zz rfl rfl) ?_
      refine Rq (Z0 rfl) ?_
      refine Rq (ZcV (cc := (n : Int)) rfl rfl (by omega) (by omega) (by omega)) ?_
      refine Rq (Z0 rfl) ?_
      refine Rq (Z5 rfl) ?_
      refine Rq (Z1 Zc rfl) ?_
      refine Rq (Z7 Zz rfl rfl) ?_
      refine Rq (Z7Z Zo rfl rfl rfl (by omega) (by omega) (by omega)) ?_
      refine Rq (Zs (cs := [_, _, _]) Z1d (.cons rfl (.cons rfl .nil)) rfl rfl) ?_
      refine RT.m rfl (Z3 rfl rfl (by repeat first | exact .here | apply Ut) (by first | exact cI rfl rfl | exact cE) (by first | exact cI rfl rfl | exact cE | exact cO) Z12) (by rfl) ?_
      refine Rq (Z2 rfl) ?_
      apply Rn
      refine FinS.nil1 ?_
      repeat first | apply Nx | apply Nb
      refine Sl [2, 3] (.cons rfl (.cons rfl .nil)) ?_
      repeat apply Sq
      apply Rt
      repeat first | apply Rp | apply Rb
      exact JX.retMC1is rfl HasOwn.mem rfl ZL HasOwn.mem rfl rfl (by rw [hsg]; show Value.agg #[.int .i64 5, .string (s.extract n (n + q)), .int .i64 0] = _; rw [ZdA]) (by rw [hsg]) (by rw [hsg])
    ·
      try simp only [dT, dF] at ht40
      apply Sk
      repeat first | apply Nx | apply Nb
      have ht2 : tryL (dr s n) q = false := (Zdy hn q).trans ht40
      repeat apply Sq
      apply Pn
      refine Jt (Z0 rfl) rfl ?_
      refine Jt (ZcV (cc := ((q - 1 : Nat) : Int)) rfl rfl (by omega) (by omega) (by omega)) rfl ?_
      refine Jt (Z2 rfl) rfl ?_
      apply Ni
      repeat refine JX.normal_block ?_
      refine JX.roundG (x := q) (q - 1) ?_ ?_ [0, 2, 4] ?_ ?_ ?_ ?_
      · exact ⟨by omega, fun h => (by rcases (show q = 1 ∨ q = 2 by omega) with rfl | rfl; exact h2 (by omega); exact ht2), fun h => (by have : q = 1 := (by omega); subst this; exact ht2)⟩
      · exact (by omega)
      · exact (.cons rfl (.cons rfl (.cons rfl .nil)))
      · repeat (first | exact .all | exact .nil | refine Has.own (by repeat first | exact .here | apply Tl.past | apply Tl.there) ?_ | refine Has.cons (by repeat (first | exact .here | apply Pk.past | apply Pk.there)) ?_)
      · exact fun G hG => by repeat (first | exact hG | refine List.mem_cons_of_mem _ ?_)
      · exact fun _ _ _ => fun _ _ => trivial
  ·
    try simp only [dT, dF] at ht6
    repeat apply Sq
    refine J.exit ?_
    repeat first | refine Ht ?_ | refine Ms rfl ?_ | refine Ep ?_
    repeat first | apply Nx | apply Nb
    have hsg : signL (dr s n) = ((t3D, 30), 0) := by unfold signL; rw [if_neg (by rw [h2 (by omega)]; simp), if_neg (by rw [h1 (by omega)]; simp)]
    repeat apply Sq
    apply Pn
    refine Jt (Zs (cs := [_, _, _]) Z1d .nil rfl rfl) rfl ?_
    refine JO.m (Z3 rfl rfl (by repeat first | exact .here | apply Ut) (by first | exact cI rfl rfl | exact cE) (by first | exact cI rfl rfl | exact cE | exact cO) Z12) (by rfl) ?_
    refine Jt (Z2 rfl) rfl ?_
    apply Ni
    repeat first | apply Nx | apply Nb
    refine Sl [2, 3] (.cons rfl (.cons rfl .nil)) ?_
    repeat apply Sq
    apply Rt
    repeat first | apply Rp | apply Rb
    exact JX.retMC1is rfl HasOwn.mem rfl ZL HasOwn.mem rfl rfl (by rw [hsg]; rfl) (by rw [hsg]) (by rw [hsg]; rfl)
end Go.Proofs.YtbedigkncjbggaaGreatDoor
set_option maxRecDepth 20000
namespace Go.Proofs.YtbedigkncjbggaaGreatDoor
open Go Go.Vc
theorem q39 (b : UInt8) : ((b.toNat : Int) == 39) = (b == 39) := by
  have h1 : (39 : UInt8).toNat = 39 := rfl
  refine Bool.eq_iff_iff.2 ⟨fun h => ?_, fun h => ?_⟩
  · have h : (b.toNat : Int) = 39 := by simpa using h
    have : b = 39 := UInt8.toNat_inj.1 (by rw [h1]; omega)
    simp [this]
  · have h : b = 39 := by simpa using h
    subst h
    rfl
theorem Zfl {s : ByteArray} {i : Nat} (h : s.size ≤ i) (acc : List UInt8) : textL (dr s i) acc = ((t3D, 30), 0) := by rw [Z7I h]; rfl
theorem Z48 (b : UInt8) (l acc : List UInt8) (hb : (b == 39) = false) : textL (b :: l) acc = ((textL l (acc ++ [b])).1, (textL l (acc ++ [b])).2 + 1) := by
 cases l with
 | nil => simp [textL, hb]
 | cons c l => rw [textL, if_neg (by rw [hb]; simp)]
theorem Zgq {s : ByteArray} {i : Nat} (h : i < s.size) (acc : List UInt8) (hb : (by_ s i == 39) = false) : textL (dr s i) acc = ((textL (dr s (i + 1)) (acc ++ [by_ s i])).1, (textL (dr s (i + 1)) (acc ++ [by_ s i])).2 + 1) := by
 rw [Z2n h, Z48 _ _ _ hb]
theorem ZfM {s : ByteArray} {i : Nat} (h : i + 1 < s.size) (acc : List UInt8) (hb : (by_ s i == 39) = true) (hc : (by_ s (i + 1) == 39) = true) :
  textL (dr s i) acc = ((textL (dr s (i + 1 + 1)) (acc ++ [by_ s (i + 1)])).1, (textL (dr s (i + 1 + 1)) (acc ++ [by_ s (i + 1)])).2 + 2) := by
 rw [Z2n (by omega : i < s.size), Z2n h, textL, if_pos hb, if_neg (by simp [bne, hc])]
theorem ZfK {s : ByteArray} {i : Nat} (h : i < s.size) (acc : List UInt8) (hb : (by_ s i == 39) = true) (hc : (((i + 1 : Nat) : Int) == (s.size : Int) || !(by_ s (i + 1) == 39)) = true) : textL (dr s i) acc = (endT acc, 1) := by
  by_cases h1 : i + 1 < s.size
  · have hc : (by_ s (i + 1) == 39) = false := by
      rw [beq_eq_false_iff_ne.2 (by omega), Bool.false_or] at hc
      simpa using hc
    rw [Z2n h, Z2n h1, textL, if_pos hb, if_pos (by simp [bne, hc])]
  · rw [Z2n h, Z7I (by omega), textL, if_pos hb]
theorem Z71 (s : ByteArray) (n : Nat) (hn : n < s.size) (hs : s.size ≤ 2048) : CallM Tryz.prog Z4c ZY (sv s n) [GF] [] (sv s (n + 1 + (textL (dr s (n + 1)) []).2)) (.tup2 (.is (tv (textL (dr s (n + 1)) []).1.1)) (.is (.int .i64 (textL (dr s (n + 1)) []).1.2))) :=
CallM.of (fn := Tryz.f102) Tryz.func102 (n := 88) rfl rfl rfl (fun _ _ => by kernel_rfl) fun E W b0 => by
 repeat apply Sq
 apply Pn
 refine JO.alloc Z1V rfl fun b2 => ?_
 refine Jt (Z2 rfl) rfl ?_
 apply Ni
 repeat first | apply Nx | apply Nb
 refine Sl [0, 2] (.cons rfl (.cons rfl .nil)) ?_
 repeat apply Sq
 apply Pn
 refine Jt (Z2 rfl) rfl ?_
 apply Ni
 repeat first | apply Nx | apply Nb
 refine Sl [0, 2, 4] (.cons rfl (.cons rfl (.cons rfl .nil))) ?_
 repeat apply Sq
 apply Pn
 refine Jt (Z0 rfl) rfl ?_
 refine Jt (Z5 rfl) rfl ?_
 refine Jt (Z1 Zc rfl) rfl ?_
 refine Jt (Z7 Zz rfl rfl) rfl ?_
 refine Jt (Z17 (cc := ((n + 1 : Nat) : Int)) rfl rfl (by omega) (by omega) (by omega)) rfl ?_
 refine Jt (Z5 rfl) rfl ?_
 refine Jt (Z1 Zc rfl) rfl ?_
 refine JO.m (Zf (cs' := [_, _]) rfl rfl (by repeat first | exact .here | apply Ut) rfl rfl rfl rfl Z2K) (by rfl) ?_
 apply Ni
 repeat first | apply Nx | apply Nb
 refine Sl [0, 2, 4] (.cons rfl (.cons rfl (.cons rfl .nil))) ?_
 repeat apply Sq
 apply Bk
 repeat apply Sq
 refine J.loopG (α := Nat × List UInt8 × Option (Nat × List Value) × Nat) (fun z => [(0, .is (.pointer (some ⟨b0, 0, none⟩))), (2, .is (.pointer (some ⟨b2, 0, none⟩))), (4, .is (sliceO z.2.2.1 z.2.1.length z.2.2.2))]) (fun z => ⟨b2, Z1J, .is (tv t3D)⟩ :: ⟨b0, ZY, .is (sv s z.1)⟩ :: ownO z.2.2.1 ZaG []) (fun z => fun _ => True) (fun z => z.1 ≤ s.size ∧ ((textL (dr s z.1) z.2.1).1 = (textL (dr s (n + 1)) []).1 ∧ z.1 + (textL (dr s z.1) z.2.1).2 = n + 1 + (textL (dr s (n + 1)) []).2) ∧ Grows bC 1 z.2.1 z.2.2.1 z.2.2.2 ∧ z.2.1.length ≤ z.1) (fun z => s.size - z.1) (n + 1, [], none, 0) [0, 2, 4] (.cons rfl (.cons rfl (.cons rfl .nil))) rfl (fun _ => trivial) ⟨by omega, ⟨rfl, rfl⟩, rfl, by simp⟩ fun ⟨i, acc, st, cp⟩ ⟨hi, ⟨hr1, hr2⟩, hG, hal⟩ => ?_
 try dsimp only
 try dsimp only at acc
 try dsimp only at st
 try dsimp only at cp
 try dsimp only at hi
 try dsimp only at hr1
 try dsimp only at hr2
 try dsimp only at hG
 try dsimp only at hal
 repeat apply Sq
 refine J.reg0 hmx (by kernel_rfl) (by kernel_rfl) ?_
 refine Rq (Z0 rfl) ?_
 refine Rq (Z5 rfl) ?_
 refine Rq (Z1 Zc rfl) ?_
 refine Rq (Z7 Zz rfl rfl) ?_
 refine Rq (Z0 rfl) ?_
 refine Rq (Z5 rfl) ?_
 refine Rq (Z1 Zx rfl) ?_
 refine Rq (Z7 ZB rfl rfl) ?_
 refine Rq (Z3q Zo rfl) ?_
 refine Rq (Z1Q rfl rfl) ?_
 apply Rn
 refine FinS.nil0 ?_
 repeat first | apply Nx | apply Nb
 refine Sl [0, 2, 4, 21] (.cons rfl (.cons rfl (.cons rfl (.cons rfl .nil)))) ?_
 repeat apply Sq
 refine Cd rfl (fun ht21 => ?_) (fun ht21 => ?_)
 ·
  try simp only [dT, dF] at ht21
  apply Sk
  repeat first | apply Nx | apply Nb
  repeat apply Sq
  apply Bk
  repeat apply Sq
  refine J.reg0 hmx (by kernel_rfl) (by kernel_rfl) ?_
  refine Rq (Z0 rfl) ?_
  refine Rq (Z5 rfl) ?_
  refine Rq (Z1 Zx rfl) ?_
  refine Rq (Z7 ZB rfl rfl) ?_
  refine Rq (Z0 rfl) ?_
  refine Rq (Z5 rfl) ?_
  refine Rq (Z1 Zc rfl) ?_
  refine Rq (Z7 Zz rfl rfl) ?_
  refine Rq (Z2S Zo rfl rfl (by omega) (by omega)) ?_
  refine Rq (Z1p rfl rfl) ?_
  apply Rn
  refine FinS.nil0 ?_
  repeat first | apply Nx | apply Nb
  refine Sl [0, 2, 4, 38] (.cons rfl (.cons rfl (.cons rfl (.cons rfl .nil)))) ?_
  repeat apply Sq
  refine Cd rfl (fun ht38 => ?_) (fun ht38 => ?_)
  ·
   try simp only [dT, dF] at ht38
   have hb39 : (by_ s i == 39) = true := (by rw [← q39]; first | exact ht38 | simpa using ht38)
   repeat apply Sq
   apply Pn
   refine Jt (Z0 rfl) rfl ?_
   refine Jt (Z5 rfl) rfl ?_
   refine Jt (Z1 Zc rfl) rfl ?_
   refine Jt (Z7 Zz rfl rfl) rfl ?_
   refine Jt (Z17 (cc := ((i + 1 : Nat) : Int)) rfl rfl (by omega) (by omega) (by omega)) rfl ?_
   refine Jt (Z5 rfl) rfl ?_
   refine Jt (Z1 Zc rfl) rfl ?_
   refine JO.m (Zf (cs' := [_, _]) rfl rfl (by repeat first | exact .here | apply Ut) rfl rfl rfl rfl Z2K) (by rfl) ?_
   apply Ni
   repeat first | apply Nx | apply Nb
   refine Sl [0, 2, 4] (.cons rfl (.cons rfl (.cons rfl .nil))) ?_
   repeat apply Sq
   refine J.reg0 hmx (by kernel_rfl) (by kernel_rfl) ?_
   refine Rq (Z0 rfl) ?_
   refine Rq (Z5 rfl) ?_
   refine Rq (Z1 Zc rfl) ?_
   refine Rq (Z7 Zz rfl rfl) ?_
   refine Rq (Z0 rfl) ?_
   refine Rq (Z5 rfl) ?_
   refine Rq (Z1 Zx rfl) ?_
   refine Rq (Z7 ZB rfl rfl) ?_
   refine Rq (Z3q Zo rfl) ?_
   refine Rq (Z1p rfl rfl) ?_
   refine Rq (Z0 rfl) ?_
   refine Rg rfl rfl rfl (fun hg => Z0 (.inl rfl)) ?_
   refine Rg rfl rfl rfl (fun hg => Z5 (.inr ⟨_, rfl, id⟩)) ?_
   refine Rg rfl rfl rfl (fun hg => Z1 Zx (.inr ⟨_, rfl, id⟩)) ?_
   refine Rg rfl rfl rfl (fun hg => Z7 ZB (.inr ⟨_, rfl, id⟩) rfl) ?_
   refine Rg rfl rfl rfl (fun hg => Z0 (.inl rfl)) ?_
   refine Rg rfl rfl rfl (fun hg => Z5 (.inr ⟨_, rfl, id⟩)) ?_
   refine Rg rfl rfl rfl (fun hg => Z1 Zc (.inr ⟨_, rfl, id⟩)) ?_
   refine Rg rfl rfl rfl (fun hg => Z7 Zz (.inr ⟨_, rfl, id⟩) rfl) ?_
   refine Rg rfl rfl rfl (fun hg => Z2S Zo (.inr ⟨_, rfl, id⟩) (.inr ⟨_, rfl, id⟩) (by simp at hg; omega) (by simp at hg; omega)) ?_
   refine Rg rfl rfl rfl (fun hg => Z1C (.inr ⟨_, rfl, id⟩) (.inl rfl)) ?_
   refine Rq (Z10 rfl rfl rfl id) ?_
   apply Rn
   refine FinS.nil0 ?_
   repeat first | apply Nx | apply Nb
   refine Sl [0, 2, 4, 67] (.cons rfl (.cons rfl (.cons rfl (.cons rfl .nil)))) ?_
   repeat apply Sq
   refine Cd rfl (fun ht67 => ?_) (fun ht67 => ?_)
   ·
    try simp only [dT, dF] at ht67
    have htx := ZfK (by omega) acc hb39 (show (((i + 1 : Nat) : Int) == (s.size : Int) || !(by_ s (i + 1) == 39)) = true by rw [← q39]; exact ht67)
    rw [htx] at hr1 hr2
    refine J.freezeOM ZaI hG (e := ZaG) (by repeat first | exact .here | apply Tl.past | apply Tl.there) (fun q h => ⟨_, List.mem_cons_of_mem _ List.mem_cons_self, h.symm⟩) rfl rfl ?_
    obtain ⟨cap2, hso⟩ := Ze2 hG
    rw [hso]
    repeat apply Sq
    apply Pn
    refine Jt (Z0 rfl) rfl ?_
    refine Jt (ZG Z34 rfl) rfl ?_
    refine Jt (Z2t rfl rfl) rfl ?_
    apply Ni
    repeat first | apply Nx | apply Nb
    refine Sl [2, 4, 70] (.cons rfl (.cons rfl (.cons rfl .nil))) ?_
    repeat apply Sq
    refine Cd rfl (fun ht70 => ?_) (fun ht70 => ?_)
    ·
     try simp only [dT, dF] at ht70
     repeat apply Sq
     apply Pn
     refine Jt (Zs (cs := [_, _, _]) Z1d .nil rfl rfl) rfl ?_
     refine JO.m (Z3 rfl rfl (by repeat first | exact .here | apply Ut) (by first | exact cI rfl rfl | exact cE) (by first | exact cI rfl rfl | exact cE | exact cO) Z12) (by rfl) ?_
     refine Jt (Z2 rfl) rfl ?_
     apply Ni
     repeat first | apply Nx | apply Nb
     refine Sl [2, 3] (.cons rfl (.cons rfl .nil)) ?_
     repeat apply Sq
     apply Rt
     repeat first | apply Rp | apply Rb
     exact JX.retMC1is rfl HasOwn.mem rfl ZL HasOwn.mem rfl rfl (by rw [← hr1]; unfold endT; rw [if_pos (decide_eq_true ht70)]; rfl) (by rw [← hr1]; unfold endT; rw [if_pos (decide_eq_true ht70)]) (by rw [← hr2])
    ·
     try simp only [dT, dF] at ht70
     apply Sk
     repeat first | apply Nx | apply Nb
     repeat apply Sq
     apply Pn
     refine Jt (Z0 rfl) rfl ?_
     refine Jt (ZhK Z34 Z8L Zo rfl (by repeat first | exact Mh | apply Mt)) rfl ?_
     refine Jt (Zs (cs := [_, _, _]) Z1d (.cons rfl (.cons rfl .nil)) rfl rfl) rfl ?_
     refine JO.m (Z3 rfl rfl (by repeat first | exact .here | apply Ut) (by first | exact cI rfl rfl | exact cE) (by first | exact cI rfl rfl | exact cE | exact cO) Z12) (by rfl) ?_
     refine Jt (Z2 rfl) rfl ?_
     apply Ni
     repeat first | apply Nx | apply Nb
     refine Sl [2, 3] (.cons rfl (.cons rfl .nil)) ?_
     repeat apply Sq
     apply Rt
     repeat first | apply Rp | apply Rb
     exact JX.retMC1is rfl HasOwn.mem rfl ZL HasOwn.mem rfl rfl (by rw [← hr1]; unfold endT; rw [if_neg (by rw [decide_eq_false ht70]; simp)]) (by rw [← hr1]; unfold endT; rw [if_neg (by rw [decide_eq_false ht70]; simp)]) (by rw [← hr2])
   ·
    try simp only [dT, dF] at ht67
    apply Sk
    repeat first | apply Nx | apply Nb
    have hlt2 : i + 1 < s.size := (by have h := ht67; simp only [Bool.or_eq_false_iff, beq_eq_false_iff_ne] at h; omega)
    have hc39 : (by_ s (i + 1) == 39) = true := (by have h := (Bool.or_eq_false_iff.1 ht67).2; rw [← q39]; exact (show (sb s (i + 1) == 39) = true by simpa using h))
    repeat apply Sq
    refine J.regS 11 hmx (by kernel_rfl) (by kernel_rfl) ?_
    refine Rq (Z0 rfl) ?_
    refine Rq (Z0 rfl) ?_
    refine Rq (Z5 rfl) ?_
    refine Rq (Z1 Zx rfl) ?_
    refine Rq (Z7 ZB rfl rfl) ?_
    refine Rq (Z0 rfl) ?_
    refine Rq (Z5 rfl) ?_
    refine Rq (Z1 Zc rfl) ?_
    refine Rq (Z7 Zz rfl rfl) ?_
    refine Rq (Z2S Zo rfl rfl (by omega) (by omega)) ?_
    refine Rq (ZJ (cs := [_]) Z8s (by omega) (by omega) (.cons rfl .nil) rfl rfl rfl) ?_
    apply Rn
    refine FinS.tail0 ?_
    refine JO.apP [by_ s (i + 1)] Z8v ZaI (by repeat (first | exact .here | apply Cx.past | apply Cx.there)) hG rfl rfl (fun L => Z8a Z34 rfl rfl) (by simp) (by simp; omega) (by simp; omega) rfl (fun st1 cp1 hG1 => ?_)
    try dsimp only
    refine Jt (Z2 rfl) rfl ?_
    apply Ni
    repeat first | apply Nx | apply Nb
    refine Sl [0, 2, 4] (.cons rfl (.cons rfl (.cons rfl .nil))) ?_
    repeat apply Sq
    apply Pn
    refine Jt (Z0 rfl) rfl ?_
    refine Jt (Z5 rfl) rfl ?_
    refine Jt (Z1 Zc rfl) rfl ?_
    refine Jt (Z7 Zz rfl rfl) rfl ?_
    refine Jt (Z17 (cc := ((i + 1 + 1 : Nat) : Int)) rfl rfl (by omega) (by omega) (by omega)) rfl ?_
    refine Jt (Z5 rfl) rfl ?_
    refine Jt (Z1 Zc rfl) rfl ?_
    refine JO.m (Zf (cs' := [_, _]) rfl rfl (by repeat first | exact .here | apply Ut) rfl rfl rfl rfl Z2K) (by rfl) ?_
    apply Ni
    repeat refine JX.normal_block ?_
    refine JX.roundG (x := ⟨i, acc, st, cp⟩) (i + 1 + 1, acc ++ [by_ s (i + 1)], st1, cp1) ?_ ?_ [0, 2, 4] ?_ ?_ ?_ ?_
    · exact ⟨by omega, by have h := ZfM hlt2 acc hb39 hc39; rw [h] at hr1 hr2; exact ⟨hr1, (by dsimp only; omega)⟩, hG1, by simp; omega⟩
    · exact (by simp only; omega)
    · exact (.cons rfl (.cons rfl (.cons rfl .nil)))
    · repeat (first | exact .all | exact .nil | refine Has.own (by repeat first | exact .here | apply Tl.past | apply Tl.there) ?_ | refine Has.cons (by repeat (first | exact .here | apply Pk.past | apply Pk.there)) ?_)
    · exact fun G hG => by repeat (first | exact hG | refine List.mem_cons_of_mem _ ?_)
    · exact fun _ _ _ => fun _ _ => trivial
  ·
   try simp only [dT, dF] at ht38
   apply Sk
   repeat first | apply Nx | apply Nb
   have hb39 : (by_ s i == 39) = false := (by rw [← q39]; first | exact ht38 | simpa using ht38)
   repeat apply Sq
   refine J.regS 11 hmx (by kernel_rfl) (by kernel_rfl) ?_
   refine Rq (Z0 rfl) ?_
   refine Rq (Z0 rfl) ?_
   refine Rq (Z5 rfl) ?_
   refine Rq (Z1 Zx rfl) ?_
   refine Rq (Z7 ZB rfl rfl) ?_
   refine Rq (Z0 rfl) ?_
   refine Rq (Z5 rfl) ?_
   refine Rq (Z1 Zc rfl) ?_
   refine Rq (Z7 Zz rfl rfl) ?_
   refine Rq (Z2S Zo rfl rfl (by omega) (by omega)) ?_
   refine Rq (ZJ (cs := [_]) Z8s (by omega) (by omega) (.cons rfl .nil) rfl rfl rfl) ?_
   apply Rn
   refine FinS.tail0 ?_
   refine JO.apP [by_ s i] Z8v ZaI (by repeat (first | exact .here | apply Cx.past | apply Cx.there)) hG rfl rfl (fun L => Z8a Z34 rfl rfl) (by simp) (by simp; omega) (by simp; omega) rfl (fun st1 cp1 hG1 => ?_)
   try dsimp only
   refine Jt (Z2 rfl) rfl ?_
   apply Ni
   repeat first | apply Nx | apply Nb
   refine Sl [0, 2, 4] (.cons rfl (.cons rfl (.cons rfl .nil))) ?_
   repeat apply Sq
   apply Pn
   refine Jt (Z0 rfl) rfl ?_
   refine Jt (Z5 rfl) rfl ?_
   refine Jt (Z1 Zc rfl) rfl ?_
   refine Jt (Z7 Zz rfl rfl) rfl ?_
   refine Jt (Z17 (cc := ((i + 1 : Nat) : Int)) rfl rfl (by omega) (by omega) (by omega)) rfl ?_
   refine Jt (Z5 rfl) rfl ?_
   refine Jt (Z1 Zc rfl) rfl ?_
   refine JO.m (Zf (cs' := [_, _]) rfl rfl (by repeat first | exact .here | apply Ut) rfl rfl rfl rfl Z2K) (by rfl) ?_
   apply Ni
   repeat refine JX.normal_block ?_
   refine JX.roundG (x := ⟨i, acc, st, cp⟩) (i + 1, acc ++ [by_ s i], st1, cp1) ?_ ?_ [0, 2, 4] ?_ ?_ ?_ ?_
   · exact ⟨by omega, by have h := Zgq (by omega) acc hb39; rw [h] at hr1 hr2; exact ⟨hr1, (by dsimp only; omega)⟩, hG1, by simp; omega⟩
   · exact (by simp only; omega)
   · exact (.cons rfl (.cons rfl (.cons rfl .nil)))
   · repeat (first | exact .all | exact .nil | refine Has.own (by repeat first | exact .here | apply Tl.past | apply Tl.there) ?_ | refine Has.cons (by repeat (first | exact .here | apply Pk.past | apply Pk.there)) ?_)
   · exact fun G hG => by repeat (first | exact hG | refine List.mem_cons_of_mem _ ?_)
   · exact fun _ _ _ => fun _ _ => trivial
 ·
  try simp only [dT, dF] at ht21
  repeat apply Sq
  refine J.exit ?_
  repeat first | refine Ht ?_ | refine Ms rfl ?_ | refine Ep ?_
  repeat first | apply Nx | apply Nb
  rw [Zfl (by omega) acc] at hr1 hr2
  repeat apply Sq
  apply Pn
  refine Jt (Zs (cs := [_, _, _]) Z1d .nil rfl rfl) rfl ?_
  refine JO.m (Z3 rfl rfl (by repeat first | exact .here | apply Ut) (by first | exact cI rfl rfl | exact cE) (by first | exact cI rfl rfl | exact cE | exact cO) Z12) (by rfl) ?_
  refine Jt (Z2 rfl) rfl ?_
  apply Ni
  repeat first | apply Nx | apply Nb
  refine Sl [2, 3] (.cons rfl (.cons rfl .nil)) ?_
  repeat apply Sq
  apply Rt
  repeat first | apply Rp | apply Rb
  exact JX.retMC1is rfl HasOwn.mem rfl ZL HasOwn.mem rfl rfl (by rw [← hr1]; rfl) (by rw [← hr1]) (by rw [← hr2]; rfl)
end Go.Proofs.YtbedigkncjbggaaGreatDoor
set_option maxRecDepth 20000
namespace Go.Proofs.YtbedigkncjbggaaGreatDoor
open Go Go.Vc
theorem Z8S : ∀ (l acc : List UInt8), (textL l acc).2 ≤ l.length
  | [], _ => by simp [textL]
  | [b], acc => by
    unfold textL
    split <;> simp
  | b :: c :: l, acc => by
    have h1 := Z8S l (acc ++ [c])
    have h2 := Z8S (c :: l) (acc ++ [b])
    unfold textL
    split
    · split
      · simp
      · simp only [List.length_cons]; omega
    · simp only [List.length_cons] at h2 ⊢; omega
theorem ZfO (l : List UInt8) : (signL l).2 ≤ l.length := by
  unfold signL tryL
  split
  · rename_i h
    simp only [Bool.and_eq_true, decide_eq_true_eq] at h
    exact h.1
  · split
    · rename_i h
      simp only [Bool.and_eq_true, decide_eq_true_eq] at h
      exact h.1
    · exact Nat.zero_le _
theorem Z85 (l : List UInt8) : (stepL l).2 ≤ l.length := by
  cases l with
  | nil => exact Nat.zero_le _
  | cons b l =>
    rw [stepL]
    split
    · exact Z4s _ _
    · split
      · exact Z4s _ _
      · split
        · have := Z8S l []
          simp only [List.length_cons]
          omega
        · exact ZfO _
theorem Z7l {b : UInt8} {l : List UInt8} (h : (stepL (b :: l)).1.2 = 0) : 1 ≤ (stepL (b :: l)).2 := by
  rw [stepL] at h ⊢
  by_cases h1 : letB b = true
  · rw [if_pos h1]
    have : wordB b = true := by unfold wordB; rw [h1]; rfl
    show 1 ≤ runN wordB (b :: l)
    unfold runN
    rw [if_pos this]
    omega
  rw [if_neg h1] at h ⊢
  by_cases h2 : digB b = true
  · rw [if_pos h2]
    show 1 ≤ runN digB (b :: l)
    unfold runN
    rw [if_pos h2]
    omega
  rw [if_neg h2] at h ⊢
  by_cases h3 : (b == 39) = true
  · rw [if_pos h3]
    exact Nat.le_add_left _ _
  rw [if_neg h3] at h ⊢
  unfold signL at h ⊢
  split at h
  · rename_i h4; rw [if_pos h4]; exact Nat.le_of_ble_eq_true rfl
  · rename_i h4
    rw [if_neg h4]
    split at h
    · rename_i h5; rw [if_pos h5]; exact Nat.le_refl _
    · cases h
theorem Z7S : ∀ (f g : Nat) (l : List UInt8), l.length < f → l.length < g → allG f l = allG g l
  | 0, _, _, h, _ => absurd h (by omega)
  | _ + 1, 0, _, _, h => absurd h (by omega)
  | f + 1, g + 1, l, hf, hg => by
    unfold allG
    cases hd : l.drop (runN isSp l) with
    | nil => rfl
    | cons b r =>
      dsimp only
      have hl : (b :: r).length ≤ l.length := by rw [← hd, List.length_drop]; omega
      by_cases he : (stepL (b :: r)).1.2 = 0
      · have hp := Z7l he
        have hle := Z85 (b :: r)
        have := Z7S f g ((b :: r).drop (stepL (b :: r)).2) (by rw [List.length_drop]; omega) (by rw [List.length_drop]; omega)
        rw [this]
      · rw [if_pos (by simpa using he), if_pos (by simpa using he)]
def allA (l : List UInt8) : List T3 × Int := allG (l.length + 1) l
def finA (xs : List T3) (r : List T3 × Int) : List T3 × Int := if (r.2 != 0) then ([], r.2) else (xs ++ r.1, 0)
theorem ZfT : allA [] = ([], 0) := rfl
theorem Z3u (l : List UInt8) : allA (l.drop (runN isSp l)) = allA l := by
  have h1 : ∀ l : List UInt8, runN isSp (l.drop (runN isSp l)) = 0 := fun l => by
    induction l with
    | nil => rfl
    | cons b l ih =>
      by_cases hb : isSp b = true
      · have : runN isSp (b :: l) = runN isSp l + 1 := by rw [runN, if_pos hb]
        rw [this, List.drop_succ_cons]
        exact ih
      · have : runN isSp (b :: l) = 0 := by rw [runN, if_neg hb]
        rw [this, List.drop_zero]
        exact this
  unfold allA
  rw [Z7S ((l.drop (runN isSp l)).length + 1) (l.length + 1) _ (by omega) (by rw [List.length_drop]; omega)]
  show allG (l.length + 1) (l.drop (runN isSp l)) = allG (l.length + 1) l
  rw [allG, allG, h1 l, List.drop_zero]
theorem Zcm (l : List UInt8) : runN isSp (l.drop (runN isSp l)) = 0 := by
  induction l with
  | nil => rfl
  | cons b l ih =>
    by_cases hb : isSp b = true
    · have : runN isSp (b :: l) = runN isSp l + 1 := by rw [runN, if_pos hb]
      rw [this, List.drop_succ_cons]
      exact ih
    · have : runN isSp (b :: l) = 0 := by rw [runN, if_neg hb]
      rw [this, List.drop_zero]
      exact this
theorem Z4N {l : List UInt8} (h0 : runN isSp l = 0) (hl : l ≠ []) :
    allA l = if ((stepL l).1.2 != 0) then ([], (stepL l).1.2) else finA [(stepL l).1.1] (allA (l.drop (stepL l).2)) := by
  cases l with
  | nil => exact absurd rfl hl
  | cons b r =>
    have e : allA (b :: r) = allG ((b :: r).length + 1) (b :: r) := rfl
    rw [e, allG, h0, List.drop_zero]
    dsimp only
    by_cases he : (stepL (b :: r)).1.2 = 0
    · have hb : ((stepL (b :: r)).1.2 != 0) = false := by simp [he]
      rw [hb]
      simp only [Bool.false_eq_true, if_false]
      have hp := Z7l he
      have hle := Z85 (b :: r)
      rw [Z7S (b :: r).length (((b :: r).drop (stepL (b :: r)).2).length + 1) _ (by rw [List.length_drop]; omega) (by omega)]
      rfl
    · rw [if_pos (by simpa using he), if_pos (by simpa using he)]
theorem Zbh (xs ys : List T3) (r : List T3 × Int) : finA xs (finA ys r) = finA (xs ++ ys) r := by
  unfold finA
  by_cases h : (r.2 != 0) = true
  · rw [if_pos h, if_pos h]; simp only; rw [if_pos h]
  · rw [if_neg h, if_neg h]
    simp
theorem Zf8 : ∀ (f : Nat) (l : List UInt8), (allG f l).2 ≠ 0 → (allG f l).1 = []
  | 0, _, h => absurd rfl h
  | f + 1, l, h => by
    unfold allG at h ⊢
    cases hd : l.drop (runN isSp l) with
    | nil => rfl
    | cons b r =>
      rw [hd] at h
      dsimp only at h ⊢
      split at h
      · rename_i h1; rw [if_pos h1]
      · rename_i h1
        rw [if_neg h1]
        split at h
        · rename_i h2; rw [if_pos h2]
        · exact absurd rfl h
theorem Zbj (l : List UInt8) : finA [] (allA l) = allA l := by
  unfold finA
  by_cases h : ((allA l).2 != 0) = true
  · rw [if_pos h]
    have h2 : (allA l).2 ≠ 0 := by simpa using h
    have := Zf8 _ _ h2
    exact Prod.ext this.symm rfl
  · rw [if_neg h]
    have : (allA l).2 = 0 := by simpa using h
    exact Prod.ext rfl this.symm
theorem ZdI {s : ByteArray} (h : s.size ≤ 2048) : finA [] (allA (dr s (0 + runN isSp (dr s 0)))) = lexL s.data.toList := by
 rw [Zbj, ← Z6B, Z3u]
 unfold lexL
 rw [if_neg (by rw [Z1o]; simp; omega)]
 rfl
theorem ZeE (s : ByteArray) (i : Nat) : runN isSp (dr s (i + runN isSp (dr s i))) = 0 := by
 rw [← Z6B]
 exact Zcm _
theorem ZfW {s : ByteArray} {i : Nat} (h : i < s.size) : dr s i ≠ [] := by rw [Z2n h]; simp
theorem Zfe {s : ByteArray} {i : Nat} {xs : List T3} {X : List T3 × Int} (h : i < s.size) (hsp : runN isSp (dr s i) = 0) (he : (stepL (dr s i)).1.2 = 0) (hr : finA xs (allA (dr s i)) = X) :
  finA (xs ++ [(stepL (dr s i)).1.1]) (allA (dr s (i + (stepL (dr s i)).2 + runN isSp (dr s (i + (stepL (dr s i)).2))))) = X := by
 rw [← Z6B s (i + (stepL (dr s i)).2), Z3u, ← Z6B s i, ← Zbh, ← hr, Z4N hsp (ZfW h), if_neg (by simp [he])]
theorem Zgf {s : ByteArray} {i : Nat} {xs : List T3} {X : List T3 × Int} (h : i < s.size) (hsp : runN isSp (dr s i) = 0) (he : (stepL (dr s i)).1.2 ≠ 0) (hr : finA xs (allA (dr s i)) = X) : X = ([], (stepL (dr s i)).1.2) := by
 rw [← hr, Z4N hsp (ZfW h), if_pos (by simpa using he)]
 unfold finA
 rw [if_pos (by simpa using he)]
def takeV (x : UInt8) (b : Nat) : Value := .func (.func (if letB x then Z47 else if digB x then Z3E else if x == 39 then Z4c else Z4j)) #[.pointer (some ⟨b, 0, none⟩)] #[]
theorem Ze7 (s : ByteArray) (n : Nat) (hn : n < s.size) (hs : s.size ≤ 2048) (b : Nat) :
    MethV Tryz.prog b (takeV (by_ s n) b) ZY (sv s n) [GF] [] (sv s (n + (stepL (dr s n)).2)) (.tup2 (.is (tv (stepL (dr s n)).1.1)) (.is (.int .i64 (stepL (dr s n)).1.2))) := by
  have e := Z2n hn
  unfold takeV
  by_cases h1 : letB (by_ s n) = true
  · rw [if_pos h1]
    have hst : stepL (dr s n) = (wordL ((dr s n).take (runN wordB (dr s n))), runN wordB (dr s n)) := by
      rw [e, stepL, if_pos h1]
    rw [hst]
    exact ⟨_, rfl, Z76 s n hn hs⟩
  rw [if_neg h1]
  by_cases h2 : digB (by_ s n) = true
  · rw [if_pos h2]
    have hst : stepL (dr s n) = (numL (dr s n), runN digB (dr s n)) := by
      rw [e, stepL, if_neg h1, if_pos h2]
    rw [hst]
    exact ⟨_, rfl, Z6h s n hn hs⟩
  rw [if_neg h2]
  by_cases h3 : (by_ s n == 39) = true
  · rw [if_pos h3]
    have hst : stepL (dr s n) = ((textL (dr s (n + 1)) []).1, (textL (dr s (n + 1)) []).2 + 1) := by
      rw [e, stepL, if_neg h1, if_neg h2, if_pos h3]
    rw [hst]
    have := Z71 s n hn hs
    rw [show n + 1 + (textL (dr s (n + 1)) []).2 = n + ((textL (dr s (n + 1)) []).2 + 1) by omega] at this
    exact ⟨_, rfl, this⟩
  rw [if_neg h3]
  have hst : stepL (dr s n) = signL (dr s n) := by
    rw [e, stepL, if_neg h1, if_neg h2, if_neg h3]
  rw [hst]
  exact ⟨_, rfl, Z7c s n hn hs⟩
end Go.Proofs.YtbedigkncjbggaaGreatDoor
set_option maxRecDepth 20000
namespace Go.Proofs.YtbedigkncjbggaaGreatDoor
open Go Go.Vc
theorem Z7e (s : ByteArray) (n : Nat) (hn : n < s.size) : CallMR Tryz.prog Z7i ZY (sv s n) [GF] [] (sv s n) (fun b => .is (takeV (by_ s n) b)) :=
CallMR.of (fn := Tryz.f57) Tryz.func57 (n := 30) rfl rfl rfl (fun _ _ => by kernel_rfl) fun E W b0 => by
 repeat apply Sq
 apply Pn
 refine Jt (Z2 rfl) rfl ?_
 apply Ni
 repeat first | apply Nx | apply Nb
 refine Sl [0] (.cons rfl .nil) ?_
 repeat apply Sq
 refine J.reg0 hmx (by kernel_rfl) (by kernel_rfl) ?_
 refine Rq (Z0 rfl) ?_
 refine Rq (Z5 rfl) ?_
 refine Rq (Z1 Zx rfl) ?_
 refine Rq (Z7 ZB rfl rfl) ?_
 refine Rq (Z0 rfl) ?_
 refine Rq (Z5 rfl) ?_
 refine Rq (Z1 Zc rfl) ?_
 refine Rq (Z7 Zz rfl rfl) ?_
 refine Rq (Z2S Zo rfl rfl (by omega) (by omega)) ?_
 refine Rq (Z2 rfl) ?_
 apply Rn
 refine FinS.nil0 ?_
 repeat first | apply Nx | apply Nb
 refine Sl [0, 3] (.cons rfl (.cons rfl .nil)) ?_
 repeat apply Sq
 apply Bk
 repeat apply Sq
 apply Pn
 refine Jt (Z0 rfl) rfl ?_
 refine Jt (ZW rfl (Z5p (sb s n)) (.one rfl .nil)) rfl ?_
 refine Jt (Z2 rfl) rfl ?_
 apply Ni
 repeat first | apply Nx | apply Nb
 refine Sl [0, 3, 13] (.cons rfl (.cons rfl (.cons rfl .nil))) ?_
 repeat apply Sq
 refine Cd rfl (fun ht13 => ?_) (fun ht13 => ?_)
 ·
  try simp only [dT, dF] at ht13
  repeat apply Sq
  apply Pn
  refine Jt (Z0 rfl) rfl ?_
  refine Jt (Z2z (.cons rfl .nil) .nil) rfl ?_
  refine Jt (Z2 rfl) rfl ?_
  apply Ni
  repeat first | apply Nx | apply Nb
  refine Sl [2] (.cons rfl .nil) ?_
  repeat apply Sq
  apply Rt
  repeat first | apply Rp | apply Rb
  exact JX.retM1e rfl HasOwn.mem rfl (by unfold takeV; rw [if_pos (show letB (by_ s n) = true from ht13)]) (by rfl)
 ·
  try simp only [dT, dF] at ht13
  repeat apply Sq
  apply Pn
  refine Jt (Z0 rfl) rfl ?_
  refine Jt (ZW rfl (Z6j (sb s n)) (.one rfl .nil)) rfl ?_
  refine Jt (Z2 rfl) rfl ?_
  apply Ni
  repeat first | apply Nx | apply Nb
  refine Sl [0, 3, 18] (.cons rfl (.cons rfl (.cons rfl .nil))) ?_
  repeat apply Sq
  refine Cd rfl (fun ht18 => ?_) (fun ht18 => ?_)
  ·
   try simp only [dT, dF] at ht18
   repeat apply Sq
   apply Pn
   refine Jt (Z0 rfl) rfl ?_
   refine Jt (Z2z (.cons rfl .nil) .nil) rfl ?_
   refine Jt (Z2 rfl) rfl ?_
   apply Ni
   repeat first | apply Nx | apply Nb
   refine Sl [2] (.cons rfl .nil) ?_
   repeat apply Sq
   apply Rt
   repeat first | apply Rp | apply Rb
   exact JX.retM1e rfl HasOwn.mem rfl (by unfold takeV; rw [if_neg (show ¬ letB (by_ s n) = true by rw [show letB (by_ s n) = false from ht13]; simp), if_pos (show digB (by_ s n) = true from ht18)]) (by rfl)
  ·
   try simp only [dT, dF] at ht18
   repeat apply Sq
   apply Pn
   refine Jt (Z0 rfl) rfl ?_
   refine Jt (Z1p rfl rfl) rfl ?_
   refine Jt (Z2 rfl) rfl ?_
   apply Ni
   repeat first | apply Nx | apply Nb
   refine Sl [0, 23] (.cons rfl (.cons rfl .nil)) ?_
   repeat apply Sq
   refine Cd rfl (fun ht23 => ?_) (fun ht23 => ?_)
   ·
    try simp only [dT, dF] at ht23
    repeat apply Sq
    apply Pn
    refine Jt (Z0 rfl) rfl ?_
    refine Jt (Z2z (.cons rfl .nil) .nil) rfl ?_
    refine Jt (Z2 rfl) rfl ?_
    apply Ni
    repeat first | apply Nx | apply Nb
    refine Sl [2] (.cons rfl .nil) ?_
    repeat apply Sq
    apply Rt
    repeat first | apply Rp | apply Rb
    exact JX.retM1e rfl HasOwn.mem rfl (by unfold takeV; rw [if_neg (show ¬ letB (by_ s n) = true by rw [show letB (by_ s n) = false from ht13]; simp), if_neg (show ¬ digB (by_ s n) = true by rw [show digB (by_ s n) = false from ht18]; simp), if_pos (by rw [← q39]; exact ht23)]) (by rfl)
   ·
    try simp only [dT, dF] at ht23
    apply Sk
    repeat first | apply Nx | apply Nb
    repeat apply Sq
    apply Pn
    refine Jt (Z0 rfl) rfl ?_
    refine Jt (Z2z (.cons rfl .nil) .nil) rfl ?_
    refine Jt (Z2 rfl) rfl ?_
    apply Ni
    repeat first | apply Nx | apply Nb
    refine Sl [2] (.cons rfl .nil) ?_
    repeat apply Sq
    apply Rt
    repeat first | apply Rp | apply Rb
    exact JX.retM1e rfl HasOwn.mem rfl (by unfold takeV; rw [if_neg (show ¬ letB (by_ s n) = true by rw [show letB (by_ s n) = false from ht13]; simp), if_neg (show ¬ digB (by_ s n) = true by rw [show digB (by_ s n) = false from ht18]; simp), if_neg (by rw [← q39]; rw [show (((by_ s n).toNat : Int) == 39) = false from ht23]; simp)]) (by rfl)
theorem ZeR (s : ByteArray) : CallF Tryz.prog Ze4 [GF] [.is (.string s)] (.tup2 (.rep (SlC T3.cells 3 (lexL s.data.toList).1)) (.is (.int .i64 (lexL s.data.toList).2))) :=
CallF.of (fn := Tryz.f24) Tryz.func24 (n := 39) rfl rfl rfl (fun _ _ => by kernel_rfl) fun E W => by
 repeat apply Sq
 apply Pn
 refine Jt (Z2 rfl) rfl ?_
 refine Jt (Z2 rfl) rfl ?_
 apply Ni
 repeat first | apply Nx | apply Nb
 refine Sl [0] (.cons rfl .nil) ?_
 repeat apply Sq
 apply Pn
 refine Jt (Z0 rfl) rfl ?_
 refine Jt (Z3q Zo rfl) rfl ?_
 refine Jt (Z2t rfl rfl) rfl ?_
 apply Ni
 repeat first | apply Nx | apply Nb
 refine Sl [0, 10] (.cons rfl (.cons rfl .nil)) ?_
 repeat apply Sq
 refine Cd rfl (fun ht10 => ?_) (fun ht10 => ?_)
 ·
  try simp only [dT, dF] at ht10
  have hx : lexL s.data.toList = ([], 30) := by unfold lexL; rw [if_pos (by rw [Z1o]; simpa using ht10)]
  repeat apply Sq
  apply Pn
  refine Jt (Z2 rfl) rfl ?_
  refine Jt (Z2 rfl) rfl ?_
  apply Ni
  repeat first | apply Nx | apply Nb
  refine Sl [2, 3] (.cons rfl (.cons rfl .nil)) ?_
  repeat apply Sq
  apply Rt
  repeat first | apply Rp | apply Rb
  exact JX.ret2sub rfl rfl rfl (by rw [hx]; exact Sub.slNilC) rfl (Sub.isEq (by rw [hx]))
 ·
  try simp only [dT, dF] at ht10
  apply Sk
  repeat first | apply Nx | apply Nb
  have hsz : s.size ≤ 2048 := by have h := ht10; omega
  have h0 : 0 + runN isSp (dr s 0) ≤ s.size := ZdQ (p := isSp) (Nat.zero_le _)
  repeat apply Sq
  apply Pn
  refine Jt (Z0 rfl) rfl ?_
  refine Jt (Zs (cs := [_, _]) Z9Q (.cons rfl .nil) rfl rfl) rfl ?_
  refine JO.box rfl rfl fun b13 => ?_
  refine Jt (Z2 rfl) rfl ?_
  apply Ni
  repeat first | apply Nx | apply Nb
  refine Sl [0, 4] (.cons rfl (.cons rfl .nil)) ?_
  repeat apply Sq
  apply Pn
  refine Jt (Z2 rfl) rfl ?_
  apply Ni
  repeat first | apply Nx | apply Nb
  refine Sl [0, 4, 5] (.cons rfl (.cons rfl (.cons rfl .nil))) ?_
  repeat apply Sq
  apply Pn
  refine Jt (Z0 rfl) rfl ?_
  refine JO.md (Z77 rfl rfl (Z3V s 0 (by omega) (by omega)) (by repeat first | exact .here | apply Ut) (by simp) .nil) (by rfl) rfl ?_
  apply Ni
  repeat first | apply Nx | apply Nb
  refine Sl [0, 4, 5] (.cons rfl (.cons rfl (.cons rfl .nil))) ?_
  repeat apply Sq
  apply Bk
  repeat apply Sq
  refine J.loopG (α := Nat × List T3 × Option (Nat × List Value) × Nat) (fun z => [(0, .is (.string s)), (4, .is (.pointer (some ⟨b13, 0, none⟩))), (5, .is (sliceO z.2.2.1 z.2.1.length z.2.2.2))]) (fun z => ⟨b13, ZY, .is (sv s z.1)⟩ :: ownO z.2.2.1 Z1J []) (fun z => fun _ => True) (fun z => z.1 ≤ s.size ∧ (finA z.2.1 (allA (dr s z.1)) = lexL s.data.toList ∧ runN isSp (dr s z.1) = 0) ∧ Grows T3.cells 3 z.2.1 z.2.2.1 z.2.2.2 ∧ z.2.1.length ≤ z.1) (fun z => s.size - z.1) (0 + runN isSp (dr s 0), [], none, 0) [0, 4, 5] (.cons rfl (.cons rfl (.cons rfl .nil))) rfl (fun _ => trivial) ⟨h0, ⟨ZdI hsz, ZeE s 0⟩, rfl, by simp⟩ fun ⟨i, xs, st, cp⟩ ⟨hi, ⟨hr, hsp⟩, hG, hal⟩ => ?_
  try dsimp only
  try dsimp only at xs
  try dsimp only at st
  try dsimp only at cp
  try dsimp only at hi
  try dsimp only at hr
  try dsimp only at hsp
  try dsimp only at hG
  try dsimp only at hal
  repeat apply Sq
  apply Pn
  refine Jt (Z0 rfl) rfl ?_
  refine Jt (Z5 rfl) rfl ?_
  refine Jt (Z1 Zc rfl) rfl ?_
  refine Jt (Z7 Zz rfl rfl) rfl ?_
  refine Jt (Z0 rfl) rfl ?_
  refine Jt (Z3q Zo rfl) rfl ?_
  refine Jt (Z1Q rfl rfl) rfl ?_
  apply Ni
  repeat first | apply Nx | apply Nb
  refine Sl [0, 4, 5, 22] (.cons rfl (.cons rfl (.cons rfl (.cons rfl .nil)))) ?_
  repeat apply Sq
  refine Cd rfl (fun ht22 => ?_) (fun ht22 => ?_)
  ·
   try simp only [dT, dF] at ht22
   apply Sk
   repeat first | apply Nx | apply Nb
   repeat apply Sq
   apply Bk
   have hlt : i < s.size := by omega
   have hle : i + (stepL (dr s i)).2 ≤ s.size := by have := Z85 (dr s i); rw [Z7L] at this; omega
   repeat apply Sq
   apply Pn
   refine Jt (Z0 rfl) rfl ?_
   refine JO.md (Zej rfl rfl (Z7e s i (by omega)) (by repeat first | exact .here | apply Ut) (by simp) .nil) (by rfl) rfl ?_
   refine JO.md (ZeQ rfl ((Ze7 s i (by omega) (by omega) b13)) (by repeat first | exact .here | apply Ut) (by simp) .nil) (by rfl) rfl ?_
   refine Jt (Z0 rfl) rfl ?_
   refine Jt (Z1F rfl) rfl ?_
   refine Jt (Z1G rfl) rfl ?_
   refine JO.alloc Z1V rfl fun b6 => ?_
   refine JO.m (Z3 rfl rfl (by repeat first | exact .here | apply Ut) (by first | exact cI rfl rfl | exact cE) (by first | exact cI rfl rfl | exact cE | exact cO) Z12) (by rfl) ?_
   refine Jt (Z2 rfl) rfl ?_
   apply Ni
   repeat first | apply Nx | apply Nb
   refine Sl [0, 4, 5, 6, 7] (.cons rfl (.cons rfl (.cons rfl (.cons rfl (.cons rfl .nil))))) ?_
   repeat apply Sq
   apply Pn
   refine Jt (Z0 rfl) rfl ?_
   refine Jt (Z1C rfl rfl) rfl ?_
   apply Ni
   repeat first | apply Nx | apply Nb
   refine Sl [0, 4, 5, 6, 7, 32] (.cons rfl (.cons rfl (.cons rfl (.cons rfl (.cons rfl (.cons rfl .nil)))))) ?_
   repeat apply Sq
   refine Cd rfl (fun ht32 => ?_) (fun ht32 => ?_)
   ·
    try simp only [dT, dF] at ht32
    have hx := Zgf hlt hsp (by simpa using ht32) hr
    repeat apply Sq
    apply Pn
    refine Jt (Z0 rfl) rfl ?_
    refine Jt (Z2 rfl) rfl ?_
    refine Jt (Z2 rfl) rfl ?_
    apply Ni
    repeat first | apply Nx | apply Nb
    refine Sl [2, 3] (.cons rfl (.cons rfl .nil)) ?_
    repeat apply Sq
    apply Rt
    repeat first | apply Rp | apply Rb
    exact JX.ret2sub rfl rfl rfl (by rw [hx]; exact Sub.slNilC) rfl (Sub.isEq (by rw [hx]))
   ·
    try simp only [dT, dF] at ht32
    apply Sk
    repeat first | apply Nx | apply Nb
    have he0 : (stepL (dr s i)).1.2 = 0 := by simpa using ht32
    have hp1 : 1 ≤ (stepL (dr s i)).2 := by rw [Z2n hlt] at he0 ⊢; exact Z7l he0
    repeat apply Sq
    apply Pn
    refine Jt (Z0 rfl) rfl ?_
    refine Jt (Z11 (cs := [_, _, _]) ZL rfl rfl rfl) rfl ?_
    refine Jt (ZJ (cs := [_, _, _]) Z99 (by omega) (by omega) (.cons rfl .nil) rfl rfl rfl) rfl ?_
    refine JO.apP [(stepL (dr s i)).1.1] Z9k T3.len (by repeat (first | exact .here | apply Cx.past | apply Cx.there)) hG rfl rfl (fun L => Z8a ZM rfl rfl) (by simp) (by simp; omega) (by simp; omega) rfl (fun st1 cp1 hG1 => ?_)
    try dsimp only
    refine Jt (Z2 rfl) rfl ?_
    apply Ni
    repeat first | apply Nx | apply Nb
    refine Sl [0, 4, 5] (.cons rfl (.cons rfl (.cons rfl .nil))) ?_
    repeat apply Sq
    apply Pn
    refine Jt (Z0 rfl) rfl ?_
    refine JO.md (Z77 rfl rfl (Z3V s (i + (stepL (dr s i)).2) (by omega) (by omega)) (by repeat first | exact .here | apply Ut) (by simp) .nil) (by rfl) rfl ?_
    apply Ni
    repeat refine JX.normal_block ?_
    refine JX.roundG (x := ⟨i, xs, st, cp⟩) (i + (stepL (dr s i)).2 + runN isSp (dr s (i + (stepL (dr s i)).2)), xs ++ [(stepL (dr s i)).1.1], st1, cp1) ?_ ?_ [0, 4, 5] ?_ ?_ ?_ ?_
    · exact ⟨ZdQ (p := isSp) hle, ⟨Zfe hlt hsp he0 hr, ZeE s (i + (stepL (dr s i)).2)⟩, hG1, by simp; omega⟩
    · exact (by simp only; omega)
    · exact (.cons rfl (.cons rfl (.cons rfl .nil)))
    · repeat (first | exact .all | exact .nil | refine Has.own (by repeat first | exact .here | apply Tl.past | apply Tl.there) ?_ | refine Has.cons (by repeat (first | exact .here | apply Pk.past | apply Pk.there)) ?_)
    · exact fun G hG => by repeat (first | exact hG | refine List.mem_cons_of_mem _ ?_)
    · exact fun _ _ _ => fun _ _ => trivial
  ·
   try simp only [dT, dF] at ht22
   repeat apply Sq
   refine J.exit ?_
   repeat first | refine Ht ?_ | refine Ms rfl ?_ | refine Ep ?_
   repeat first | apply Nx | apply Nb
   have hfin : lexL s.data.toList = (xs, 0) := by rw [← hr, Z7I (by omega)]; simp [finA, ZfT]
   refine J.freezeO T3.len hG (e := Z1J) (by repeat first | exact .here | apply Tl.past | apply Tl.there) (fun _ h => h) rfl rfl ?_
   repeat apply Sq
   apply Pn
   refine Jt (Z0 rfl) rfl ?_
   refine Jt (Z2 rfl) rfl ?_
   refine Jt (Z2 rfl) rfl ?_
   apply Ni
   repeat first | apply Nx | apply Nb
   refine Sl [2, 3] (.cons rfl (.cons rfl .nil)) ?_
   repeat apply Sq
   apply Rt
   repeat first | apply Rp | apply Rb
   exact JX.ret2sub rfl rfl rfl (by rw [hfin]; exact Sub.slOC hG (by repeat first | exact Mh | apply Mt)) rfl (Sub.isEq (by rw [hfin]))
end Go.Proofs.YtbedigkncjbggaaGreatDoor
set_option maxRecDepth 20000
namespace Go.Proofs.YtbedigkncjbggaaGreatDoor
open Go Go.Vc
def capB (b : UInt8) : Bool := decide (65 ≤ (b.toNat : Int)) && decide ((b.toNat : Int) ≤ 90)
def lowC (q : Bool) (b : UInt8) : UInt8 := if !q && capB b then b + 32 else b
def flipQ (q : Bool) (b : UInt8) : Bool := if b == 39 then !q else q
def caseL : Bool → List UInt8 → List UInt8
 | _, [] => []
 | q, b :: l => lowC (flipQ q b) b :: caseL (flipQ q b) l
theorem Zbu : ∀ (f : Nat) (l : List UInt8), (allG f l).1.length ≤ f
  | 0, _ => Nat.le_refl _
  | f + 1, l => by
    unfold allG
    cases hd : l.drop (runN isSp l) with
    | nil => exact Nat.zero_le _
    | cons b r =>
      dsimp only
      split
      · exact Nat.zero_le _
      · split
        · exact Nat.zero_le _
        · have := Zbu f ((b :: r).drop (stepL (b :: r)).2)
          simp only [List.length_cons]
          omega
theorem Zbq (l : List UInt8) : (lexL l).1.length ≤ 2049 := by
  unfold lexL
  split
  · exact Nat.zero_le _
  · rename_i h
    have := Zbu (l.length + 1) l
    simp at h
    omega
def sameT : List T3 → List T3 → Bool
 | [], [] => true
 | x :: xs, y :: ys => teq x y && sameT xs ys
 | _, _ => false
end Go.Proofs.YtbedigkncjbggaaGreatDoor
