/- The scanner in plain terms: how much a token is; one more token. No condition. -/
import Derived.Test.YtbedigkncjbggaaGreatDoorXQ3
import Derived.Test.YtbedigkncjbggaaGreatDoorXG3
import Derived.Test.YtbedigkncjbggaaGreatDoorXG4
import Derived.Lib.ItoaNum
import Derived.Test.YtbedigkncjbggaaGreatDoorXQ1
import Derived.Test.YtbedigkncjbggaaGreatDoorXG7
set_option maxRecDepth 20000
namespace Go.Proofs.YtbedigkncjbggaaGreatDoor
open Go Go.Vc
theorem ZaT : ∀ (l acc : List UInt8), (textL l acc).2 ≤ l.length
 | [], _ => by simp [textL]
 | [b], acc => by
   unfold textL
   split <;> simp
 | b :: c :: l, acc => by
   have h1 := ZaT l (acc ++ [c])
   have h2 := ZaT (c :: l) (acc ++ [b])
   unfold textL
   split
   · split
     · simp
     · simp only [List.length_cons]; omega
   · simp only [List.length_cons] at h2 ⊢; omega
theorem ZhG (l : List UInt8) : (signL l).2 ≤ l.length := by
 unfold signL tryL
 split
 · rename_i h
   simp only [Bool.and_eq_true, decide_eq_true_eq] at h
   exact h.1
 · split
   · rename_i h
     simp only [Bool.and_eq_true, decide_eq_true_eq] at h
     exact h.1
   · exact Nat.zero_le _
theorem Zaf (l : List UInt8) : (stepL l).2 ≤ l.length := by
 cases l with
 | nil => exact Nat.zero_le _
 | cons b l =>
   rw [stepL]
   split
   · exact Z68 _ _
   · split
     · exact Z68 _ _
     · split
       · have := ZaT l []
         simp only [List.length_cons]
         omega
       · exact ZhG _
theorem Z8P {b : UInt8} {l : List UInt8} (h : (stepL (b :: l)).1.2 = 0) : 1 ≤ (stepL (b :: l)).2 := by
 rw [stepL] at h ⊢
 by_cases h1 : letB b = true
 · rw [if_pos h1]
   have : wordB b = true := by unfold wordB; rw [h1]; rfl
   show 1 ≤ runN wordB (b :: l)
   unfold runN
   rw [if_pos this]
   omega
 rw [if_neg h1] at h ⊢
 by_cases h2 : digB b = true
 · rw [if_pos h2]
   show 1 ≤ runN digB (b :: l)
   unfold runN
   rw [if_pos h2]
   omega
 rw [if_neg h2] at h ⊢
 by_cases h3 : (b == 39) = true
 · rw [if_pos h3]
   exact Nat.le_add_left _ _
 rw [if_neg h3] at h ⊢
 unfold signL at h ⊢
 split at h
 · rename_i h4; rw [if_pos h4]; exact Nat.le_of_ble_eq_true rfl
 · rename_i h4
   rw [if_neg h4]
   split at h
   · rename_i h5; rw [if_pos h5]; exact Nat.le_refl _
   · cases h
theorem Z9K : ∀ (f g : Nat) (l : List UInt8), l.length < f → l.length < g → allG f l = allG g l
 | 0, _, _, h, _ => absurd h qM
 | _ + 1, 0, _, _, h => absurd h qM
 | f + 1, g + 1, l, hf, hg => by
   unfold allG
   cases hd : l.drop (runN isSp l) with
   | nil => rfl
   | cons b r =>
     dsimp only
     have hl : (b :: r).length ≤ l.length := by rw [← hd, List.length_drop]; omega
     by_cases he : (stepL (b :: r)).1.2 = 0
     · have hp := Z8P he
       have hle := Zaf (b :: r)
       have := Z9K f g ((b :: r).drop (stepL (b :: r)).2) (by rw [List.length_drop]; omega) (by rw [List.length_drop]; omega)
       rw [this]
     · rw [if_pos (by simpa using he), if_pos (by simpa using he)]
def allA (l : List UInt8) : List T3 × Int := allG (l.length + 1) l
def finA (xs : List T3) (r : List T3 × Int) : List T3 × Int := if (r.2 != 0) then ([], r.2) else (xs ++ r.1, 0)
theorem Z8Q : allA [] = ([], 0) := rfl
theorem Z49 (l : List UInt8) : allA (l.drop (runN isSp l)) = allA l := by
 have h1 : ∀ l : List UInt8, runN isSp (l.drop (runN isSp l)) = 0 := fun l => by
   induction l with
   | nil => rfl
   | cons b l ih =>
     by_cases hb : isSp b = true
     · have : runN isSp (b :: l) = runN isSp l + 1 := by rw [runN, if_pos hb]
       rw [this, List.drop_succ_cons]
       exact ih
     · have : runN isSp (b :: l) = 0 := by rw [runN, if_neg hb]
       rw [this, List.drop_zero]
       exact this
 unfold allA
 rw [Z9K ((l.drop (runN isSp l)).length + 1) (l.length + 1) _ qM (by rw [List.length_drop]; omega)]
 show allG (l.length + 1) (l.drop (runN isSp l)) = allG (l.length + 1) l
 rw [allG, allG, h1 l, List.drop_zero]
theorem Zf8 (l : List UInt8) : runN isSp (l.drop (runN isSp l)) = 0 := by
 induction l with
 | nil => rfl
 | cons b l ih =>
   by_cases hb : isSp b = true
   · have : runN isSp (b :: l) = runN isSp l + 1 := by rw [runN, if_pos hb]
     rw [this, List.drop_succ_cons]
     exact ih
   · have : runN isSp (b :: l) = 0 := by rw [runN, if_neg hb]
     rw [this, List.drop_zero]
     exact this
theorem Z5x {l : List UInt8} (h0 : runN isSp l = 0) (hl : l ≠ []) :
   allA l = if ((stepL l).1.2 != 0) then ([], (stepL l).1.2) else finA [(stepL l).1.1] (allA (l.drop (stepL l).2)) := by
 cases l with
 | nil => exact absurd rfl hl
 | cons b r =>
   have e : allA (b :: r) = allG ((b :: r).length + 1) (b :: r) := rfl
   rw [e, allG, h0, List.drop_zero]
   dsimp only
   by_cases he : (stepL (b :: r)).1.2 = 0
   · have hb : ((stepL (b :: r)).1.2 != 0) = false := by simp [he]
     rw [hb]
     simp only [Bool.false_eq_true, if_false]
     have hp := Z8P he
     have hle := Zaf (b :: r)
     rw [Z9K (b :: r).length (((b :: r).drop (stepL (b :: r)).2).length + 1) _ (by rw [List.length_drop]; omega) qM]
     rfl
   · rw [if_pos (by simpa using he), if_pos (by simpa using he)]
theorem Zeg (xs ys : List T3) (r : List T3 × Int) : finA xs (finA ys r) = finA (xs ++ ys) r := by
 unfold finA
 by_cases h : (r.2 != 0) = true
 · rw [if_pos h, if_pos h]; simp only; rw [if_pos h]
 · rw [if_neg h, if_neg h]
   simp
theorem ZhU : ∀ (f : Nat) (l : List UInt8), (allG f l).2 ≠ 0 → (allG f l).1 = []
 | 0, _, h => absurd rfl h
 | f + 1, l, h => by
   unfold allG at h ⊢
   cases hd : l.drop (runN isSp l) with
   | nil => rfl
   | cons b r =>
     rw [hd] at h
     dsimp only at h ⊢
     split at h
     · rename_i h1; rw [if_pos h1]
     · rename_i h1
       rw [if_neg h1]
       split at h
       · rename_i h2; rw [if_pos h2]
       · exact absurd rfl h
theorem ZdV (l : List UInt8) : finA [] (allA l) = allA l := by
 unfold finA
 by_cases h : ((allA l).2 != 0) = true
 · rw [if_pos h]
   have h2 : (allA l).2 ≠ 0 := by simpa using h
   have := ZhU _ _ h2
   exact Prod.ext this.symm rfl
 · rw [if_neg h]
   have : (allA l).2 = 0 := by simpa using h
   exact Prod.ext rfl this.symm
theorem Zhe {s : ByteArray} (h : s.size ≤ 2048) : finA [] (allA (dr s (0 + runN isSp (dr s 0)))) = lexL s.data.toList := by
 rw [ZdV, ← Z8p, Z49]
 unfold lexL
 rw [if_neg (by rw [Z1q]; simp; omega)]
 rfl
theorem Zhj (s : ByteArray) (i : Nat) : runN isSp (dr s (i + runN isSp (dr s i))) = 0 := by
 rw [← Z8p]
 exact Zf8 _
theorem Ziy {s : ByteArray} {i : Nat} (h : i < s.size) : dr s i ≠ [] := by rw [Z3p h]; simp
theorem ZhE {s : ByteArray} {i : Nat} {xs : List T3} {X : List T3 × Int} (h : i < s.size) (hsp : runN isSp (dr s i) = 0) (he : (stepL (dr s i)).1.2 = 0) (hr : finA xs (allA (dr s i)) = X) :
  finA (xs ++ [(stepL (dr s i)).1.1]) (allA (dr s (i + (stepL (dr s i)).2 + runN isSp (dr s (i + (stepL (dr s i)).2))))) = X := by
 rw [← Z8p s (i + (stepL (dr s i)).2), Z49, ← Z8p s i, ← Zeg, ← hr, Z5x hsp (Ziy h), if_neg (by simp [he])]
theorem Zje {s : ByteArray} {i : Nat} {xs : List T3} {X : List T3 × Int} (h : i < s.size) (hsp : runN isSp (dr s i) = 0) (he : (stepL (dr s i)).1.2 ≠ 0) (hr : finA xs (allA (dr s i)) = X) : X = ([], (stepL (dr s i)).1.2) := by
 rw [← hr, Z5x hsp (Ziy h), if_pos (by simpa using he)]
 unfold finA
 rw [if_pos (by simpa using he)]
def takeV (x : UInt8) (b : Nat) : Value := .func (.func (if letB x then Z5O else if digB x then Z4V else if x == 39 then Z5G else Z5N)) #[.pointer (some ⟨b, 0, none⟩)] #[]
theorem ZhA (s : ByteArray) (n : Nat) (hn : n < s.size) (hs : s.size ≤ 2048) (b : Nat) :
   MethV Tryz.prog b (takeV (by_ s n) b) Z1f (sv s n) [GF] [] (sv s (n + (stepL (dr s n)).2)) (.tup2 (.is (tv (stepL (dr s n)).1.1)) (.is (.int .i64 (stepL (dr s n)).1.2))) := by
 have e := Z3p hn
 unfold takeV
 by_cases h1 : letB (by_ s n) = true
 · rw [if_pos h1]
   have hst : stepL (dr s n) = (wordL ((dr s n).take (runN wordB (dr s n))), runN wordB (dr s n)) := by
     rw [e, stepL, if_pos h1]
   rw [hst]
   exact ⟨_, rfl, Z8T s n hn hs⟩
 rw [if_neg h1]
 by_cases h2 : digB (by_ s n) = true
 · rw [if_pos h2]
   have hst : stepL (dr s n) = (numL (dr s n), runN digB (dr s n)) := by
     rw [e, stepL, if_neg h1, if_pos h2]
   rw [hst]
   exact ⟨_, rfl, Z7W s n hn hs⟩
 rw [if_neg h2]
 by_cases h3 : (by_ s n == 39) = true
 · rw [if_pos h3]
   have hst : stepL (dr s n) = ((textL (dr s (n + 1)) []).1, (textL (dr s (n + 1)) []).2 + 1) := by
     rw [e, stepL, if_neg h1, if_neg h2, if_pos h3]
   rw [hst]
   have := Z92 s n hn hs
   rw [show n + 1 + (textL (dr s (n + 1)) []).2 = n + ((textL (dr s (n + 1)) []).2 + 1) by omega] at this
   exact ⟨_, rfl, this⟩
 rw [if_neg h3]
 have hst : stepL (dr s n) = signL (dr s n) := by
   rw [e, stepL, if_neg h1, if_neg h2, if_neg h3]
 rw [hst]
 exact ⟨_, rfl, Z98 s n hn hs⟩
end Go.Proofs.YtbedigkncjbggaaGreatDoor
set_option maxRecDepth 20000
namespace Go.Proofs.YtbedigkncjbggaaGreatDoor
open Go Go.Vc
theorem Z8S (s : ByteArray) (n : Nat) (hn : n < s.size) : CallMR Tryz.prog Z99 Z1f (sv s n) [GF] [] (sv s n) (fun b => .is (takeV (by_ s n) b)) :=
CallMR.of (fn := Tryz.f57) Tryz.func57 (n := 30) rfl rfl rfl (fun _ _ => by kernel_rfl) fun E W b0 => by
 refine vQ ?_
 refine Ja rfl ?_
 refine vS [0] ?_
 refine J.reg0 hmx qK qK ?_
 refine yz (Z2 rfl) ?_
 refine yz (Z5 rfl) ?_
 refine yz (Z0 ZO rfl) ?_
 refine yz (Z1 Z9 rfl rfl) ?_
 refine yz (Z2 rfl) ?_
 refine yz (Z5 rfl) ?_
 refine yz (Z0 Zg rfl) ?_
 refine yz (Z1 Zt rfl rfl) ?_
 refine yz (Z3T Zv rfl rfl qM qM) ?_
 refine yz (Z1s rfl) ?_
 apply yn
 refine FinS.nil0 ?_
 refine vS [0, 3] ?_
 apply yk
 refine vQ ?_
 refine Jm rfl (Jq (ZL rfl (Z7i (sb s n)) qA) ?_)
 refine Ja rfl ?_
 refine vS [0, 3, 13] ?_
 refine yC rfl (fun ht13 => ?_) (fun ht13 => ?_)
 refine vQ ?_
 refine Jm rfl (Jq (Z3w (.cons rfl .nil) .nil) ?_)
 refine Ja rfl ?_
 refine vS [2] ?_
 refine vR ?_
 exact JX.retM1e rfl HasOwn.mem rfl (by unfold takeV; rw [if_pos (show letB (by_ s n) = true from ht13)]) (by rfl)
 refine vQ ?_
 refine Jm rfl (Jq (ZL rfl (Z7Y (sb s n)) qA) ?_)
 refine Ja rfl ?_
 refine vS [0, 3, 18] ?_
 refine yC rfl (fun ht18 => ?_) (fun ht18 => ?_)
 refine vQ ?_
 refine Jm rfl (Jq (Z3w (.cons rfl .nil) .nil) ?_)
 refine Ja rfl ?_
 refine vS [2] ?_
 refine vR ?_
 exact JX.retM1e rfl HasOwn.mem rfl (by unfold takeV; rw [if_neg (show ¬ letB (by_ s n) = true by rw [show letB (by_ s n) = false from ht13]; simp), if_pos (show digB (by_ s n) = true from ht18)]) (by rfl)
 refine vQ ?_
 refine Jm rfl (Jq (ZM rfl rfl) ?_)
 refine Ja rfl ?_
 refine vS [0, 23] ?_
 refine yC rfl (fun ht23 => ?_) (fun ht23 => ?_)
 refine vQ ?_
 refine Jm rfl (Jq (Z3w (.cons rfl .nil) .nil) ?_)
 refine Ja rfl ?_
 refine vS [2] ?_
 refine vR ?_
 exact JX.retM1e rfl HasOwn.mem rfl (by unfold takeV; rw [if_neg (show ¬ letB (by_ s n) = true by rw [show letB (by_ s n) = false from ht13]; simp), if_neg (show ¬ digB (by_ s n) = true by rw [show digB (by_ s n) = false from ht18]; simp), if_pos (by rw [← q39]; exact ht23)]) (by rfl)
 apply yK
 refine vN ?_
 apply yN
 refine Jm rfl (Jq (Z3w (.cons rfl .nil) .nil) ?_)
 refine Ja rfl ?_
 refine vS [2] ?_
 refine vR ?_
 exact JX.retM1e rfl HasOwn.mem rfl (by unfold takeV; rw [if_neg (show ¬ letB (by_ s n) = true by rw [show letB (by_ s n) = false from ht13]; simp), if_neg (show ¬ digB (by_ s n) = true by rw [show digB (by_ s n) = false from ht18]; simp), if_neg (by rw [← q39]; rw [show (((by_ s n).toNat : Int) == 39) = false from ht23]; simp)]) (by rfl)
theorem Zhy (s : ByteArray) : CallF Tryz.prog Zgq [GF] [.is (.string s)] (.tup2 (.rep (SlC T3.cells 3 (lexL s.data.toList).1)) (.is (.int .i64 (lexL s.data.toList).2))) :=
CallF.of (fn := Tryz.f24) Tryz.func24 (n := 39) rfl rfl rfl (fun _ _ => by kernel_rfl) fun E W => by
 refine vQ ?_
 refine Ja rfl (Ja rfl ?_)
 refine vP [0] ?_
 refine Jm rfl (Jq (Z4d Zv rfl) ?_)
 refine Jq (Z2i rfl rfl) ?_
 refine vS [0, 10] ?_
 refine yC rfl (fun ht10 => ?_) (fun ht10 => ?_)
 try simp only [yd, yf] at ht10
 have hx : lexL s.data.toList = ([], 30) := by unfold lexL; rw [if_pos (by rw [Z1q]; simpa using ht10)]
 refine vQ ?_
 refine Ja rfl (Ja rfl ?_)
 refine vS [2, 3] ?_
 refine vR ?_
 exact JX.ret2sub rfl rfl rfl (by rw [hx]; exact Sub.slNilC) rfl (Sub.isEq (by rw [hx]))
 try simp only [yd, yf] at ht10
 apply yK
 repeat first|apply yX|apply yB
 have hsz : s.size ≤ 2048 := by have h := ht10; omega
 have h0 : 0 + runN isSp (dr s 0) ≤ s.size := Zhn (p := isSp) (Nat.zero_le _)
 refine vQ ?_
 refine Jm rfl (Jq (ZB (cs := [_, _]) ZbZ (.cons rfl .nil) rfl rfl) ?_)
 refine JO.box rfl rfl fun b13 => ?_
 refine Ja rfl ?_
 refine vP [0, 4] ?_
 refine Ja rfl ?_
 refine vP [0, 4, 5] ?_
 refine Jm rfl ?_
 refine JO.md (Z9c rfl rfl (Z5p s 0 qM qM) qU (by simp) .nil) (by rfl) rfl ?_
 refine vS [0, 4, 5] ?_
 apply yk
 repeat apply yQ
 refine J.loopG (α := Nat × List T3 × Option (Nat × List Value) × Nat) (fun z => [(0, .is (.string s)), (4, .is (.pointer (some ⟨b13, 0, none⟩))), (5, .is (sliceO z.2.2.1 z.2.1.length z.2.2.2))]) (fun z => ⟨b13, Z1f, .is (sv s z.1)⟩ :: ownO z.2.2.1 Z2p []) (fun z => fun _ => True) (fun z => z.1 ≤ s.size ∧ (finA z.2.1 (allA (dr s z.1)) = lexL s.data.toList ∧ runN isSp (dr s z.1) = 0) ∧ Grows T3.cells 3 z.2.1 z.2.2.1 z.2.2.2 ∧ z.2.1.length ≤ z.1) (fun z => s.size - z.1) (0 + runN isSp (dr s 0), [], none, 0) [0, 4, 5] (.cons rfl (.cons rfl (.cons rfl .nil))) rfl (fun _ => trivial) ⟨h0, ⟨Zhe hsz, Zhj s 0⟩, rfl, by simp⟩ fun ⟨i, xs, st, cp⟩ ⟨hi, ⟨hr, hsp⟩, hG, hal⟩ => ?_
 try dsimp only
 try dsimp only at hi
 try dsimp only at hr
 try dsimp only at hsp
 try dsimp only at hG
 try dsimp only at hal
 refine vQ ?_
 refine Jm rfl (Jq (Z5 rfl) ?_)
 refine Jq (Z0 Zg rfl) ?_
 refine Jq (Z1 Zt rfl rfl) ?_
 refine Jm rfl (Jq (Z4d Zv rfl) ?_)
 refine Jq (ZW rfl rfl) ?_
 refine vS [0, 4, 5, 22] ?_
 refine yC rfl (fun ht22 => ?_) (fun ht22 => ?_)
 try simp only [yd, yf] at ht22
 apply yK
 refine vN ?_
 apply yk
 have hlt : i < s.size := by omega
 have hle : i + (stepL (dr s i)).2 ≤ s.size := by have := Zaf (dr s i); rw [Z9G] at this; omega
 refine vQ ?_
 refine Jm rfl ?_
 refine JO.md (Zh0 rfl rfl (Z8S s i qM) qU (by simp) .nil) (by rfl) rfl ?_
 refine JO.md (Zha rfl ((ZhA s i qM qM b13)) qU (by simp) .nil) (by rfl) rfl ?_
 refine Jm rfl (Jq (Z3x rfl) ?_)
 refine Jq (Z3v rfl) ?_
 refine JO.alloc Z2F rfl fun b6 => ?_
 refine JO.m (Z3 rfl rfl qU qC qO Z1h) (by rfl) ?_
 refine Ja rfl ?_
 refine vP [0, 4, 5, 6, 7] ?_
 refine Jm rfl (Jq (Z25 rfl rfl) ?_)
 refine vS [0, 4, 5, 6, 7, 32] ?_
 refine yC rfl (fun ht32 => ?_) (fun ht32 => ?_)
 have hx := Zje hlt hsp (by simpa using ht32) hr
 refine vQ ?_
 refine Jm rfl (Ja rfl (Ja rfl ?_))
 refine vS [2, 3] ?_
 refine vR ?_
 exact JX.ret2sub rfl rfl rfl (by rw [hx]; exact Sub.slNilC) rfl (Sub.isEq (by rw [hx]))
 apply yK
 repeat first|apply yX|apply yB
 have he0 : (stepL (dr s i)).1.2 = 0 := by simpa using ht32
 have hp1 : 1 ≤ (stepL (dr s i)).2 := by rw [Z3p hlt] at he0 ⊢; exact Z8P he0
 refine vQ ?_
 refine Jm rfl (Jq (ZI (cs := [_, _, _]) Z15 rfl rfl rfl) ?_)
 refine Jq (ZF (cs := [_, _, _]) Zbw qM qM (.cons rfl .nil) rfl rfl rfl) ?_
 refine JO.apP [(stepL (dr s i)).1.1] Zbp T3.len (by repeat (first|exact .here|apply Cx.past|apply Cx.there)) hG rfl rfl (fun L => Z3o Z16 rfl rfl) (by simp) (by simp; omega) (by simp; omega) rfl (fun st1 cp1 hG1 => ?_)
 refine Ja rfl ?_
 refine vP [0, 4, 5] ?_
 refine Jm rfl ?_
 refine JO.md (Z9c rfl rfl (Z5p s (i + (stepL (dr s i)).2) qM qM) qU (by simp) .nil) (by rfl) rfl ?_
 apply yI
 repeat refine JX.normal_block ?_
 refine JX.roundG (x := ⟨i, xs, st, cp⟩) (i + (stepL (dr s i)).2 + runN isSp (dr s (i + (stepL (dr s i)).2)), xs ++ [(stepL (dr s i)).1.1], st1, cp1) ?_ ?_ [0, 4, 5] ?_ ?_ ?_ ?_
 · exact ⟨Zhn (p := isSp) hle, ⟨ZhE hlt hsp he0 hr, Zhj s (i + (stepL (dr s i)).2)⟩, hG1, by simp; omega⟩
 · exact (by simp only; omega)
 · exact qS
 · exact qH
 · exact qG
 · exact fun _ _ _ => fun _ _ => trivial
 try simp only [yd, yf] at ht22
 repeat apply yQ
 refine J.exit ?_
 repeat first|refine yH ?_|refine yM rfl ?_|refine yE ?_
 repeat first|apply yX|apply yB
 have hfin : lexL s.data.toList = (xs, 0) := by rw [← hr, Z9v qM]; simp [finA, Z8Q]
 refine J.freezeO T3.len hG (e := Z2p) yV (fun _ h => h) rfl rfl ?_
 refine vQ ?_
 refine Jm rfl (Ja rfl (Ja rfl ?_))
 refine vS [2, 3] ?_
 refine vR ?_
 exact JX.ret2sub rfl rfl rfl (by rw [hfin]; exact Sub.slOC hG qI) rfl (Sub.isEq (by rw [hfin]))
end Go.Proofs.YtbedigkncjbggaaGreatDoor
set_option maxRecDepth 20000
namespace Go.Proofs.YtbedigkncjbggaaGreatDoor
open Go Go.Vc
def capB (b : UInt8) : Bool := decide (65 ≤ (b.toNat : Int)) && decide ((b.toNat : Int) ≤ 90)
def lowC (q : Bool) (b : UInt8) : UInt8 := if !q && capB b then b + 32 else b
theorem Zee : ∀ (f : Nat) (l : List UInt8), (allG f l).1.length ≤ f
 | 0, _ => Nat.le_refl _
 | f + 1, l => by
   unfold allG
   cases hd : l.drop (runN isSp l) with
   | nil => exact Nat.zero_le _
   | cons b r =>
     dsimp only
     split
     · exact Nat.zero_le _
     · split
       · exact Nat.zero_le _
       · have := Zee f ((b :: r).drop (stepL (b :: r)).2)
         simp only [List.length_cons]
         omega
theorem Zea (l : List UInt8) : (lexL l).1.length ≤ 2049 := by
 unfold lexL
 split
 · exact Nat.zero_le _
 · rename_i h
   have := Zee (l.length + 1) l
   simp at h
   omega
end Go.Proofs.YtbedigkncjbggaaGreatDoor
set_option maxRecDepth 20000
namespace Go.Proofs.YtbedigkncjbggaaGreatDoor
open Go Go.Vc
theorem ZbB {p : UInt8 → Bool} (h : ∀ n : Nat, n < 256 → p (UInt8.ofNat n) = true) (b : UInt8) : p b = true := by
 have := h b.toNat b.toNat_lt
 rwa [UInt8.ofNat_toNat] at this
abbrev low (b : UInt8) : UInt8 := lowC false b
def lowOK (b : UInt8) : Bool := (isSp (low b) == isSp b) && (wordB (low b) == wordB b) && (digB (low b) == digB b) && (letB (low b) == letB b) && ((low b == 39) == (b == 39)) && (Lib.upperB (low b) == Lib.upperB b) && (Lib.lowerB (low b) == Lib.lowerB b) && (!digB b || low b == b) && (letB b || low b == b)
theorem ZkU (b : UInt8) : lowOK b = true := ZbB (p := lowOK) (by decide +kernel) b
theorem ZlJ (b : UInt8) : isSp (low b) = isSp b ∧ wordB (low b) = wordB b ∧ digB (low b) = digB b ∧ letB (low b) = letB b ∧ (low b == 39) = (b == 39) ∧ Lib.upperB (low b) = Lib.upperB b ∧ Lib.lowerB (low b) = Lib.lowerB b ∧ (digB b = true → low b = b) ∧ (letB b = false → low b = b) := by
 have h := ZkU b
 unfold lowOK at h
 simp only [Bool.and_eq_true, beq_iff_eq, Bool.or_eq_true, Bool.not_eq_true'] at h
 obtain ⟨⟨⟨⟨⟨⟨⟨⟨h1, h2⟩, h3⟩, h4⟩, h5⟩, h6⟩, h7⟩, h8⟩, h9⟩ := h
 refine ⟨h1, h2, h3, h4, h5, h6, h7, fun h => ?_, fun h => ?_⟩
 · rcases h8 with h8 | h8
   · rw [h] at h8; cases h8
   · exact h8
 · rcases h9 with h9 | h9
   · rw [h] at h9; cases h9
   · exact h9
theorem Z9g : ∀ {a l : List UInt8}, a.isPrefixOf l = true → ∀ x ∈ a, x ∈ l
 | [], _, _, x, h => by cases h
 | _ :: _, [], h, _, _ => by cases h
 | a :: ar, b :: br, h, x, hx => by
   simp only [List.isPrefixOf, Bool.and_eq_true, beq_iff_eq] at h
   rcases List.mem_cons.1 hx with rfl | hx
   · rw [h.1]; exact List.mem_cons_self
   · exact List.mem_cons_of_mem _ (Z9g h.2 x hx)
theorem Ze8 {s sub : List UInt8} (h : Lib.contains s sub = true) : ∀ x ∈ sub, x ∈ s := fun x hx => by
 unfold Lib.contains at h
 have h := of_decide_eq_true h
 rcases Lib.index_spec s sub with ⟨h1, _⟩ | ⟨i, _, _, h3, _⟩
 · omega
 · exact List.mem_of_mem_drop (Z9g h3 x hx)
theorem Zgr {l : List UInt8} {q : Nat} {b : UInt8} (hb : b ∈ l.take q) (h : b ∉ sgB.data.toList) : tryL l q = false := by
 unfold tryL
 cases hc : Lib.contains sgB.data.toList (padL (l.take q))
 · simp
 · exact absurd (Ze8 hc b (by unfold padL; simp; exact .inr (.inl hb))) h
end Go.Proofs.YtbedigkncjbggaaGreatDoor
set_option maxRecDepth 20000
namespace Go.Proofs.YtbedigkncjbggaaGreatDoor
open Go Go.Vc
theorem ZaS (p : UInt8 → Bool) (l m : List UInt8) : (l ++ m).take (runN p l) = l.take (runN p l) := List.take_append_of_le_length (Z68 p l)
theorem Zdc (p : UInt8 → Bool) (l m : List UInt8) : (l ++ m).drop (runN p l) = l.drop (runN p l) ++ m := List.drop_append_of_le_length (Z68 p l)
end Go.Proofs.YtbedigkncjbggaaGreatDoor
set_option maxRecDepth 100000
namespace Go.Proofs.YtbedigkncjbggaaGreatDoor
open Go Go.Vc
abbrev zs (k : Nat) : ByteArray := bl (List.replicate k 122)
abbrev ys (k : Nat) : ByteArray := bl (39 :: List.replicate k 121)
def n1 : ByteArray := ⟨#[48, 48, 48, 48, 48, 57, 50, 50, 51, 51, 55, 50, 48, 51, 54, 56, 53, 52, 55, 55, 53, 56, 48, 55]⟩
def n2 : ByteArray := ⟨#[57, 50, 50, 51, 51, 55, 50, 48, 51, 54, 56, 53, 52, 55, 55, 53, 56, 48, 56]⟩
def n3 : ByteArray := ⟨#[57, 50, 50, 51, 51, 55, 50, 48, 51, 54, 56, 53, 52, 55, 55, 53, 56, 48, 56, 97]⟩
def part (i n : Nat) : List Value := List.replicate i (.int .u8 32) ++ List.replicate (n - i) (.int .u8 0)
end Go.Proofs.YtbedigkncjbggaaGreatDoor
set_option maxRecDepth 100000
namespace Go.Proofs.YtbedigkncjbggaaGreatDoor
open Go Go.Vc
def strC (s : ByteArray) : List Value := [.string s]
theorem Z2c (s : ByteArray) : (strC s).length = 1 := rfl
theorem Zjy : ∀ b ∈ sgB.data.toList, ∀ c ∈ sgB.data.toList, b ≠ 32 → tryL [b, c] 2 = ((([b, c] : List UInt8) == [60, 62]) ||(([b, c] : List UInt8) == [60, 61]) ||(([b, c] : List UInt8) == [62, 61])) := by decide +kernel
theorem Zks {b c : UInt8} (hb : b ≠ 32) : tryL [b, c] 2 = ((([b, c] : List UInt8) == [60, 62]) ||(([b, c] : List UInt8) == [60, 61]) ||(([b, c] : List UInt8) == [62, 61])) := by
 by_cases h1 : b ∈ sgB.data.toList
 · by_cases h2 : c ∈ sgB.data.toList
   · exact Zjy b h1 c h2 hb
   · rw [Zgr (b := c) (by simp) h2]
     have hc : c ≠ 62 ∧ c ≠ 61 := ⟨fun e => h2 (by rw [e]; decide +kernel), fun e => h2 (by rw [e]; decide +kernel)⟩
     simp [hc.1, hc.2]
 · rw [Zgr (b := b) (by simp) h1]
   have hc : b ≠ 60 ∧ b ≠ 62 := ⟨fun e => h1 (by rw [e]; decide +kernel), fun e => h1 (by rw [e]; decide +kernel)⟩
   simp [hc.1, hc.2]
def quoF : List UInt8 → List UInt8 → Option (List UInt8 × Nat)
 | [], _ => none
 | [b], acc => if b == 39 then some (acc, 1) else none
 | b :: c :: l, acc => if b == 39 then (if c != 39 then some (acc, 1) else (quoF l (acc ++ [c])).map fun r => (r.1, r.2 + 2)) else (quoF (c :: l) (acc ++ [b])).map fun r => (r.1, r.2 + 1)
theorem ZaV : ∀ (l acc : List UInt8), (quoF l acc = none → (textL l acc).1 = (t3D, 30)) ∧ (∀ r, quoF l acc = some r → textL l acc = (endT r.1, r.2))
 | [], acc => ⟨fun _ => rfl, fun r h => by cases h⟩
 | [b], acc => by
   by_cases hq : (b == 39) = true
   · have e1 : quoF [b] acc = some (acc, 1) := by rw [quoF, if_pos hq]
     have e2 : textL [b] acc = (endT acc, 1) := by rw [textL, if_pos hq]
     rw [e1, e2]
     exact ⟨fun h => (by cases h), fun r h => (by injection h with h; subst h; rfl)⟩
   · have e1 : quoF [b] acc = none := by rw [quoF, if_neg hq]
     have e2 : textL [b] acc = ((t3D, 30), 1) := by rw [textL, if_neg hq]
     rw [e1, e2]
     exact ⟨fun _ => rfl, fun r h => (by cases h)⟩
 | b :: c :: l, acc => by
   obtain ⟨a1, a2⟩ := ZaV l (acc ++ [c])
   obtain ⟨b1, b2⟩ := ZaV (c :: l) (acc ++ [b])
   by_cases hq : (b == 39) = true
   · by_cases hc : (c != 39) = true
     · have e1 : quoF (b :: c :: l) acc = some (acc, 1) := by rw [quoF, if_pos hq, if_pos hc]
       have e2 : textL (b :: c :: l) acc = (endT acc, 1) := by rw [textL, if_pos hq, if_pos hc]
       rw [e1, e2]
       exact ⟨fun h => (by cases h), fun r h => (by injection h with h; subst h; rfl)⟩
     · have e1 : quoF (b :: c :: l) acc = (quoF l (acc ++ [c])).map fun r => (r.1, r.2 + 2) := by rw [quoF, if_pos hq, if_neg hc]
       have e2 : textL (b :: c :: l) acc = ((textL l (acc ++ [c])).1, (textL l (acc ++ [c])).2 + 2) := by rw [textL, if_pos hq, if_neg hc]
       rw [e1, e2]
       refine ⟨fun h => a1 (Option.map_eq_none_iff.1 h), fun r h => ?_⟩
       obtain ⟨q, hq, e⟩ := Option.map_eq_some_iff.1 h
       subst e
       rw [a2 q hq]
   · have e1 : quoF (b :: c :: l) acc = (quoF (c :: l) (acc ++ [b])).map fun r => (r.1, r.2 + 1) := by rw [quoF, if_neg hq]
     have e2 : textL (b :: c :: l) acc = ((textL (c :: l) (acc ++ [b])).1, (textL (c :: l) (acc ++ [b])).2 + 1) := by rw [textL, if_neg hq]
     rw [e1, e2]
     refine ⟨fun h => b1 (Option.map_eq_none_iff.1 h), fun r h => ?_⟩
     obtain ⟨q, hq, e⟩ := Option.map_eq_some_iff.1 h
     subst e
     rw [b2 q hq]
end Go.Proofs.YtbedigkncjbggaaGreatDoor
set_option maxRecDepth 100000
namespace Go.Proofs.YtbedigkncjbggaaGreatDoor
open Go Go.Vc
theorem w8 (x : Int) : IntKind.u8.wrap x = x % 256 := by
 unfold IntKind.wrap
 simp [IntKind.bits, IntKind.signed]
theorem w64u (x : Int) : IntKind.u64.wrap x = x % 18446744073709551616 := by
 unfold IntKind.wrap
 simp [IntKind.bits, IntKind.signed]
def overF (u d : Int) : Bool := decide (922337203685477580 < u) ||((u == 922337203685477580) && decide (7 < d))
def dgU (b : UInt8) : Int := IntKind.u64.wrap (IntKind.u8.wrap ((b.toNat : Int) - 48))
def refG : List UInt8 → Int → Option Int
 | [], u => some u
 | x :: l, u => if overF u (dgU x) then none else refG l (IntKind.u64.wrap (IntKind.u64.wrap (10 * u) + dgU x))
def refNum (l : List UInt8) : Int × Bool := match refG l 0 with | none => (0, false) | some u => (IntKind.i64.wrap u, true)
theorem ZjR {b : UInt8} (h : digB b = true) : 48 ≤ (b.toNat : Int) ∧ (b.toNat : Int) ≤ 57 := by
 unfold digB digitF at h
 simpa using h
theorem Zfm : ∀ (l : List UInt8) (m : Int), (l.foldl numStep (m, 35)).2 = 35
 | [], _ => rfl
 | x :: l, m => by
   rw [List.foldl_cons]
   have : (numStep (m, 35) x).2 = 35 := by unfold numStep; split <;> rfl
   rw [show numStep (m, 35) x = ((numStep (m, 35) x).1, 35) from Prod.ext rfl this]
   exact Zfm l _
theorem Z9I : ∀ (l : List UInt8) (u : Int), (∀ b ∈ l, digB b = true) → 0 ≤ u → u ≤ 9223372036854775807 →
   (refG l u = none → (l.foldl numStep (u, 0)).2 = 35) ∧ (∀ v, refG l u = some v → l.foldl numStep (u, 0) = (v, 0) ∧ 0 ≤ v ∧ v ≤ 9223372036854775807)
 | [], u, _, h0, h1 => ⟨fun h => (by cases h), fun v h => (by injection h with h; subst h; exact ⟨rfl, h0, h1⟩)⟩
 | x :: l, u, hd, h0, h1 => by
   obtain ⟨d0, d1⟩ := ZjR (hd x List.mem_cons_self)
   have e8 : IntKind.u8.wrap ((x.toNat : Int) - 48) = (x.toNat : Int) - 48 := by rw [w8]; omega
   have eu : dgU x = (x.toNat : Int) - 48 := by unfold dgU; rw [e8, w64u]; omega
   have ei : IntKind.i64.wrap ((x.toNat : Int) - 48) = (x.toNat : Int) - 48 := Z1r qM qM
   have em : IntKind.i64.wrap (9223372036854775807 - ((x.toNat : Int) - 48)) = 9223372036854775807 - ((x.toNat : Int) - 48) := Z1r qM qM
   have eq : IntKind.i64.wrap ((9223372036854775807 - ((x.toNat : Int) - 48)).tdiv 10) = (9223372036854775807 - ((x.toNat : Int) - 48)) / 10 := by
     rw [Int.tdiv_eq_ediv_of_nonneg qM]
     exact Z1r qM qM
   have es : numStep (u, 0) x = (IntKind.i64.wrap (IntKind.i64.wrap (10 * u) + ((x.toNat : Int) - 48)), if decide ((9223372036854775807 - ((x.toNat : Int) - 48)) / 10 < u) then 35 else 0) := by
     unfold numStep
     rw [e8, ei, em, eq]
   rw [List.foldl_cons, refG, eu, es]
   by_cases ho : overF u ((x.toNat : Int) - 48) = true
   · rw [if_pos ho]
     have : (9223372036854775807 - ((x.toNat : Int) - 48)) / 10 < u := by
       unfold overF at ho
       simp only [Bool.or_eq_true, decide_eq_true_eq, Bool.and_eq_true, beq_iff_eq] at ho
       omega
     rw [if_pos (decide_eq_true this)]
     exact ⟨fun _ => Zfm l _, fun v h => (by cases h)⟩
   · rw [if_neg ho]
     have hn : ¬ (9223372036854775807 - ((x.toNat : Int) - 48)) / 10 < u := by
       unfold overF at ho
       simp only [Bool.or_eq_true, decide_eq_true_eq, Bool.and_eq_true, beq_iff_eq, not_or, not_and] at ho
       omega
     rw [if_neg (by rw [decide_eq_false hn]; simp)]
     have e1 : IntKind.u64.wrap (IntKind.u64.wrap (10 * u) + ((x.toNat : Int) - 48)) = 10 * u + ((x.toNat : Int) - 48) := by
       rw [w64u, w64u]; omega
     have e2 : IntKind.i64.wrap (IntKind.i64.wrap (10 * u) + ((x.toNat : Int) - 48)) = 10 * u + ((x.toNat : Int) - 48) := by
       rw [Z1r (n := 10 * u) qM qM]
       exact Z1r qM qM
     rw [e1, e2]
     exact Z9I l _ (fun b hb => hd b (List.mem_cons_of_mem _ hb)) qM qM
theorem ZjQ {l : List UInt8} (hl : headP letB (l.drop (runN digB l)) = false) :
   numL l = if (refNum (l.take (runN digB l))).2 then (⟨3, ⟨#[]⟩, (refNum (l.take (runN digB l))).1⟩, 0) else (t3D, 35) := by
 have h := Z9I (l.take (runN digB l)) 0 (Z8i digB l) (Int.le_refl _) qD
 have e : numE l = ((l.take (runN digB l)).foldl numStep (0, 0)).2 := by unfold numE; rw [hl]; rfl
 unfold numL refNum
 rw [e]
 cases hr : refG (l.take (runN digB l)) 0 with
 | none =>
   rw [h.1 hr]
   rfl
 | some v =>
   obtain ⟨h1, h2, h3⟩ := h.2 v hr
   rw [h1]
   simp only [bne_self_eq_false, Bool.false_eq_true, if_false, if_true]
   rw [Z1r qM qM]
theorem ZjA {l : List UInt8} (hl : headP letB (l.drop (runN digB l)) = true) : numL l = (t3D, 30) := by
 have e : numE l = 30 := by unfold numE; rw [hl]; rfl
 unfold numL
 rw [e]
 rfl
end Go.Proofs.YtbedigkncjbggaaGreatDoor
set_option maxRecDepth 20000
namespace Go.Proofs.YtbedigkncjbggaaGreatDoor
open Go Go.Vc
end Go.Proofs.YtbedigkncjbggaaGreatDoor
set_option maxRecDepth 20000
namespace Go.Proofs.YtbedigkncjbggaaGreatDoor
open Go Go.Vc
end Go.Proofs.YtbedigkncjbggaaGreatDoor
set_option maxRecDepth 20000
namespace Go.Proofs.YtbedigkncjbggaaGreatDoor
open Go Go.Vc
theorem ZkC {b : UInt8} (h : isSp b = false) : b ≠ 32 := fun e => by subst e; cases h
end Go.Proofs.YtbedigkncjbggaaGreatDoor
set_option maxRecDepth 100000
namespace Go.Proofs.YtbedigkncjbggaaGreatDoor
open Go Go.Vc
abbrev dblQ (l : List UInt8) : List UInt8 := repL 39 [39, 39] l
def showT (x : T3) : List UInt8 := if x.k == 3 then Lib.itoa x.n else if x.k == 4 then 39 :: (dblQ x.t.data.toList ++ [39]) else x.t.data.toList
def writeL (ts : List T3) : List UInt8 := ts.flatMap fun x => 32 :: showT x
def sepL (r : List UInt8) : Prop := r = [] ∨ ∃ t, r = 32 :: t
def rt (x : T3) : Prop := ∃ b t, showT x = b :: t ∧ isSp b = false ∧ ∀ r, sepL r → stepL (showT x ++ r) = ((x, 0), (showT x).length)
def tokO (x : T3) : Prop := rt x ∧ (x.k = 3 → x.t = ⟨#[]⟩ ∧ 0 ≤ x.n ∧ x.n ≤ 9223372036854775807) ∧ (x.k = 4 → x.t.size ≤ 64) ∧ x.t.size ≤ 2048
theorem ZgL (ts : List T3) : sepL (writeL ts) := by
 cases ts with
 | nil => exact .inl rfl
 | cons x ts => exact .inr ⟨_, rfl⟩
theorem ZcF : ∀ ts : List T3, (∀ x ∈ ts, rt x) → allA (writeL ts) = (ts, 0)
 | [], _ => rfl
 | x :: ts, h => by
   obtain ⟨b, t, hs, hb, hst⟩ := h x List.mem_cons_self
   have ih := ZcF ts fun y hy => h y (List.mem_cons_of_mem _ hy)
   have hst := hst (writeL ts) (ZgL ts)
   have e : writeL (x :: ts) = 32 :: (showT x ++ writeL ts) := rfl
   have hr0 : runN isSp (showT x ++ writeL ts) = 0 := by
     rw [hs]
     show runN isSp (b :: (t ++ writeL ts)) = 0
     unfold runN
     rw [if_neg (by rw [hb]; simp)]
   have hr1 : runN isSp (writeL (x :: ts)) = 1 := by
     rw [e, runN, if_pos (by rfl), hr0]
   rw [← Z49, hr1, e]
   show allA (showT x ++ writeL ts) = _
   rw [Z5x hr0 (by rw [hs]; simp), hst, if_neg (by simp), List.drop_left, ih]
   rfl
def lettersOK (b : UInt8) : Bool := (Lib.upperB (Lib.upperB b) == Lib.upperB b) && (Lib.upperB (Lib.lowerB b) == Lib.upperB b) && (Lib.lowerB (Lib.lowerB b) == Lib.lowerB b) && (wordB (Lib.upperB b) == wordB b) && (wordB (Lib.lowerB b) == wordB b) && (letB (Lib.upperB b) == letB b) && (letB (Lib.lowerB b) == letB b) && (!(wordB b) || !(isSp b)) && (!(digB b) || !(letB b)) && (!(letB b) || wordB b) && (!(digB b) || wordB b)
theorem ZfB (b : UInt8) : lettersOK b = true := ZbB (p := lettersOK) (by decide +kernel) b
theorem letters (b : UInt8) : Lib.upperB (Lib.upperB b) = Lib.upperB b ∧ Lib.upperB (Lib.lowerB b) = Lib.upperB b ∧ Lib.lowerB (Lib.lowerB b) = Lib.lowerB b ∧ wordB (Lib.upperB b) = wordB b ∧ wordB (Lib.lowerB b) = wordB b ∧ letB (Lib.upperB b) = letB b ∧ letB (Lib.lowerB b) = letB b ∧ (wordB b = true → isSp b = false) ∧ (digB b = true → letB b = false) ∧ (letB b = true → wordB b = true) ∧ (digB b = true → wordB b = true) := by
 have h := ZfB b
 unfold lettersOK at h
 simp only [Bool.and_eq_true, beq_iff_eq, Bool.or_eq_true, Bool.not_eq_true'] at h
 obtain ⟨⟨⟨⟨⟨⟨⟨⟨⟨⟨h1, h2⟩, h3⟩, h4⟩, h5⟩, h6⟩, h7⟩, h8⟩, h9⟩, h10⟩, h11⟩ := h
 refine ⟨h1, h2, h3, h4, h5, h6, h7, fun h => ?_, fun h => ?_, fun h => ?_, fun h => ?_⟩
 · rcases h8 with h8 | h8
   · rw [h] at h8; cases h8
   · exact h8
 · rcases h9 with h9 | h9
   · rw [h] at h9; cases h9
   · exact h9
 · rcases h10 with h10 | h10
   · rw [h] at h10; cases h10
   · exact h10
 · rcases h11 with h11 | h11
   · rw [h] at h11; cases h11
   · exact h11
theorem Zli (w : List UInt8) : Lib.toUpperA (Lib.toUpperA w) = Lib.toUpperA w := by
 unfold Lib.toUpperA
 rw [List.map_map]
 exact List.map_congr_left fun b _ => (letters b).1
theorem Zkd (w : List UInt8) : Lib.toUpperA (Lib.toLowerA w) = Lib.toUpperA w := by
 unfold Lib.toUpperA Lib.toLowerA
 rw [List.map_map]
 exact List.map_congr_left fun b _ => (letters b).2.1
theorem ZjV (w : List UInt8) : Lib.toLowerA (Lib.toLowerA w) = Lib.toLowerA w := by
 unfold Lib.toLowerA
 rw [List.map_map]
 exact List.map_congr_left fun b _ => (letters b).2.2.1
theorem ZbW {p : UInt8 → Bool} (h32 : p 32 = false) {r : List UInt8} (hr : sepL r) : ∀ w : List UInt8, (∀ b ∈ w, p b = true) → runN p (w ++ r) = w.length
 | [], _ => by
   rcases hr with rfl | ⟨t, rfl⟩
   · rfl
   · show runN p (32 :: t) = 0
     rw [runN, if_neg (by rw [h32]; simp)]
 | b :: w, h => by
   show runN p (b :: (w ++ r)) = _
   rw [runN, if_pos (h b List.mem_cons_self), ZbW h32 hr w fun c hc => h c (List.mem_cons_of_mem _ hc)]
   rfl
theorem Zh6 {b : UInt8} {w r : List UInt8} (hl : letB b = true) (hw : ∀ c ∈ b :: w, wordB c = true) (hr : sepL r) : stepL ((b :: w) ++ r) = (wordL (b :: w), (b :: w).length) := by
 have h1 : runN wordB ((b :: w) ++ r) = (b :: w).length := ZbW (by rfl) hr _ hw
 have h2 : ((b :: w) ++ r).take (b :: w).length = b :: w := List.take_left
 rw [show (b :: w) ++ r = b :: (w ++ r) from rfl] at h1 h2 ⊢
 rw [stepL, if_pos hl, h1, h2]
theorem ZeL {x : T3} {b : UInt8} {w : List UInt8} (hs : showT x = b :: w) (hl : letB b = true) (hw : ∀ c ∈ b :: w, wordB c = true) (hx : wordL (b :: w) = (x, 0)) : rt x :=
 ⟨b, w, hs, (letters b).2.2.2.2.2.2.2.1 (hw b List.mem_cons_self), fun r hr => by rw [hs, Zh6 hl hw hr, hx]⟩
theorem ZdG {f : UInt8 → UInt8} (hf : ∀ b, wordB (f b) = wordB b) {w : List UInt8} (h : ∀ b ∈ w, wordB b = true) : ∀ b ∈ w.map f, wordB b = true := fun b hb => by
 obtain ⟨c, hc, rfl⟩ := List.mem_map.1 hb
 rw [hf]
 exact h c hc
theorem ZjW {b : UInt8} {w : List UInt8} (hl : letB b = true) (hw : ∀ c ∈ b :: w, wordB c = true) (hsz : (b :: w).length ≤ 2048) (he : (wordL (b :: w)).2 = 0) : tokO (wordL (b :: w)).1 := by
 by_cases hc : Lib.contains kwB.data.toList (padL (Lib.toUpperA (b :: w))) = true
 · have e : wordL (b :: w) = (⟨1, bl (Lib.toUpperA (b :: w)), 0⟩, 0) := by unfold wordL; rw [if_pos hc]
   rw [e]
   refine ⟨ZeL (b := Lib.upperB b) (w := Lib.toUpperA w) (by show (bl (Lib.toUpperA (b :: w))).data.toList = _; rw [Z4c]; rfl) (by rw [(letters b).2.2.2.2.2.1]; exact hl) (ZdG (fun c => (letters c).2.2.2.1) hw) ?_, fun h => (by simp at h), fun h => (by simp at h), by show (bl _).size ≤ 2048; rw [Z4b, Zcd]; exact hsz⟩
   show wordL (Lib.toUpperA (b :: w)) = _
   unfold wordL
   rw [Zli, if_pos hc]
 · by_cases h32 : 32 < ((b :: w).length : Int)
   · have e : wordL (b :: w) = (t3D, 30) := by unfold wordL; rw [if_neg hc, if_pos (decide_eq_true h32)]
     rw [e] at he
     cases he
   · have e : wordL (b :: w) = (⟨2, bl (Lib.toLowerA (b :: w)), 0⟩, 0) := by unfold wordL; rw [if_neg hc, if_neg (by rw [decide_eq_false h32]; simp)]
     rw [e]
     refine ⟨ZeL (b := Lib.lowerB b) (w := Lib.toLowerA w) (by show (bl (Lib.toLowerA (b :: w))).data.toList = _; rw [Z4c]; rfl) (by rw [(letters b).2.2.2.2.2.2.1]; exact hl) (ZdG (fun c => (letters c).2.2.2.2.1) hw) ?_, fun h => (by simp at h), fun h => (by simp at h), by show (bl _).size ≤ 2048; rw [Z4b, Zec]; exact hsz⟩
     show wordL (Lib.toLowerA (b :: w)) = _
     unfold wordL
     rw [Zkd, if_neg hc, Zec, if_neg (by rw [decide_eq_false h32]; simp), ZjV]
theorem ZgZ {d : Nat} (h : d < 10) : ((UInt8.ofNat (48 + d)).toNat : Int) = 48 + d := by
 rw [UInt8.toNat_ofNat_of_lt' (by show 48 + d < 256; omega)]
 omega
theorem Zf0 {d : Nat} (h : d < 10) : digB (UInt8.ofNat (48 + d)) = true := by
 unfold digB digitF
 rw [ZgZ h]
 simp
 omega
theorem ZiV (u : Nat) : ∀ b ∈ Lib.decDigits u, digB b = true := by
 induction u using Nat.strongRecOn with
 | _ u ih =>
   intro b hb
   rw [Lib.decDigits] at hb
   split at hb
   · rename_i h
     rw [List.mem_singleton] at hb
     subst hb
     exact Zf0 h
   · rename_i h
     rcases List.mem_append.1 hb with hb | hb
     · exact ih (u / 10) qM b hb
     · rw [List.mem_singleton] at hb
       subst hb
       exact Zf0 qM
theorem Zke (u : Nat) : ∃ b t, Lib.decDigits u = b :: t := by
 cases h : Lib.decDigits u with
 | cons b t => exact ⟨b, t, rfl⟩
 | nil =>
   rw [Lib.decDigits] at h
   split at h
   · cases h
   · simp at h
theorem Zej {u : Nat} {m : Int} (h : (u : Int) ≤ 9223372036854775807) (hm : m = (u / 10 : Nat)) : numStep (m, 0) (UInt8.ofNat (48 + u % 10)) = ((u : Int), 0) := by
 have hd : u % 10 < 10 := Nat.mod_lt _ qD
 have e0 : ((UInt8.ofNat (48 + u % 10)).toNat : Int) = 48 + (u % 10 : Nat) := ZgZ hd
 have e8 : IntKind.u8.wrap (((UInt8.ofNat (48 + u % 10)).toNat : Int) - 48) = ((u % 10 : Nat) : Int) := by rw [e0, w8]; omega
 have ei : IntKind.i64.wrap ((u % 10 : Nat) : Int) = ((u % 10 : Nat) : Int) := Z1r qM qM
 have em : IntKind.i64.wrap (9223372036854775807 - ((u % 10 : Nat) : Int)) = 9223372036854775807 - ((u % 10 : Nat) : Int) := Z1r qM qM
 have eq : IntKind.i64.wrap ((9223372036854775807 - ((u % 10 : Nat) : Int)).tdiv 10) = (9223372036854775807 - ((u % 10 : Nat) : Int)) / 10 := by
   rw [Int.tdiv_eq_ediv_of_nonneg qM]
   exact Z1r qM qM
 have e2 : IntKind.i64.wrap (IntKind.i64.wrap (10 * m) + ((u % 10 : Nat) : Int)) = u := by
   rw [Z1r (n := 10 * m) qM qM, Z1r qM qM]
   omega
 unfold numStep
 rw [e8, ei, em, eq]
 simp only
 rw [e2, if_neg (by rw [decide_eq_false qM]; simp)]
theorem ZhT (u : Nat) (h : (u : Int) ≤ 9223372036854775807) : (Lib.decDigits u).foldl numStep (0, 0) = ((u : Int), 0) := by
 induction u using Nat.strongRecOn with
 | _ u ih =>
   rw [Lib.decDigits]
   split
   · rename_i h10
     have := Zej (u := u) (m := 0) h (by rw [Nat.div_eq_of_lt h10]; rfl)
     rw [Nat.mod_eq_of_lt h10] at this
     exact this
   · rename_i h10
     rw [List.foldl_append, ih (u / 10) qM qM]
     exact Zej h rfl
theorem Zd0 {m : Int} (h0 : 0 ≤ m) (h1 : m ≤ 9223372036854775807) : rt ⟨3, ⟨#[]⟩, m⟩ := by
 obtain ⟨u, rfl⟩ : ∃ u : Nat, m = u := ⟨m.toNat, by omega⟩
 have hs : showT ⟨3, ⟨#[]⟩, (u : Int)⟩ = Lib.decDigits u := by
   show Lib.itoa (u : Int) = _
   unfold Lib.itoa
   rw [if_neg qM]
   rfl
 obtain ⟨b, t, hb⟩ := Zke u
 have hd := ZiV u
 refine ⟨b, t, hs.trans hb, ?_, fun r hr => ?_⟩
 · have := hd b (by rw [hb]; exact List.mem_cons_self)
   exact (letters b).2.2.2.2.2.2.2.1 ((letters b).2.2.2.2.2.2.2.2.2.2 this)
 · rw [hs]
   have hdb : digB b = true := hd b (by rw [hb]; exact List.mem_cons_self)
   have hlb : letB b = false := (letters b).2.2.2.2.2.2.2.2.1 hdb
   have hrun : runN digB (Lib.decDigits u ++ r) = (Lib.decDigits u).length := ZbW (by rfl) hr _ hd
   have hst : stepL (Lib.decDigits u ++ r) = (numL (Lib.decDigits u ++ r), runN digB (Lib.decDigits u ++ r)) := by
     rw [hb]
     show stepL (b :: (t ++ r)) = _
     rw [stepL, if_neg (by rw [hlb]; simp), if_pos hdb]
     rfl
   have hh : headP letB r = false := by
     rcases hr with rfl | ⟨t, rfl⟩ <;> rfl
   have hn : numL (Lib.decDigits u ++ r) = (⟨3, ⟨#[]⟩, (u : Int)⟩, 0) := by
     unfold numL numE
     rw [hrun, List.drop_left, List.take_left, hh, ZhT u h1]
     rfl
   rw [hst, hn, hrun]
theorem Zj8 {b : UInt8} {l : List UInt8} (he : (numL (b :: l)).2 = 0) : tokO (numL (b :: l)).1 := by
 have hl : headP letB ((b :: l).drop (runN digB (b :: l))) = false := by
   cases h : headP letB ((b :: l).drop (runN digB (b :: l)))
   · rfl
   · rw [ZjA h] at he
     cases he
 have h := Z9I ((b :: l).take (runN digB (b :: l))) 0 (Z8i digB (b :: l)) (Int.le_refl _) qD
 have hr := ZjQ hl
 unfold refNum at hr
 cases hg : refG ((b :: l).take (runN digB (b :: l))) 0 with
 | none =>
   rw [hg] at hr
   rw [hr] at he
   cases he
 | some v =>
   rw [hg] at hr
   obtain ⟨h1, h2, h3⟩ := h.2 v hg
   have e : numL (b :: l) = (⟨3, ⟨#[]⟩, v⟩, 0) := by
     rw [hr]
     simp only [if_true]
     rw [Z1r qM qM]
   rw [e]
   exact ⟨Zd0 h2 h3, fun _ => ⟨rfl, h2, h3⟩, fun h => (by simp at h), Nat.zero_le _⟩
theorem Z8I {r : List UInt8} (hr : sepL r) : ∀ a c : List UInt8, textL (dblQ a ++ 39 :: r) c = (endT (c ++ a), (dblQ a).length + 1)
 | [], c => by
   show textL (39 :: r) c = _
   rw [List.append_nil]
   rcases hr with rfl | ⟨t, rfl⟩ <;> rfl
 | x :: a, c => by
   by_cases hx : (x == 39) = true
   · have e : x = 39 := by simpa using hx
     subst e
     have ih := Z8I hr a (c ++ [39])
     show textL (39 :: 39 :: (dblQ a ++ 39 :: r)) c = _
     have h2 : (dblQ (39 :: a)).length = (dblQ a).length + 2 := by rw [dblQ, Z6m, if_pos (show ((39 : UInt8) == 39) = true by decide), List.length_append]; exact Nat.add_comm 2 _
     rw [textL, if_pos (show ((39 : UInt8) == 39) = true by decide), if_neg qD, ih, h2]
     simp
   · have hx : (x == 39) = false := by simpa using hx
     have e : dblQ (x :: a) = x :: dblQ a := by rw [dblQ, Z6m, if_neg (by rw [hx]; simp)]; rfl
     rw [e]
     show textL (x :: (dblQ a ++ 39 :: r)) c = _
     rw [Z4N _ _ _ hx, Z8I hr a (c ++ [x])]
     simp
theorem Zjp {l : List UInt8} (he : (textL l []).1.2 = 0) : tokO (textL l []).1.1 := by
 obtain ⟨q1, q2⟩ := ZaV l []
 cases hq : quoF l [] with
 | none => rw [q1 hq] at he; cases he
 | some r =>
   have e := q2 r hq
   by_cases h64 : 64 < (r.1.length : Int)
   · have : endT r.1 = (t3D, 30) := by unfold endT; rw [if_pos (decide_eq_true h64)]
     rw [e, this] at he
     cases he
   · have e2 : endT r.1 = (⟨4, bl r.1, 0⟩, 0) := by unfold endT; rw [if_neg (by rw [decide_eq_false h64]; simp)]
     rw [e, e2]
     have hs : showT ⟨4, bl r.1, 0⟩ = 39 :: (dblQ r.1 ++ [39]) := by
       show 39 :: (dblQ (bl r.1).data.toList ++ [39]) = _
       rw [Z4c]
     refine ⟨⟨39, _, hs, by rfl, fun t ht => ?_⟩, fun h => (by simp at h), fun _ => by show (bl r.1).size ≤ 64; rw [Z4b]; omega, by show (bl r.1).size ≤ 2048; rw [Z4b]; omega⟩
     rw [hs]
     have h3 := Z8I ht r.1 []
     have e3 : (39 :: (dblQ r.1 ++ [39])) ++ t = 39 :: (dblQ r.1 ++ 39 :: t) := by simp
     rw [e3, stepL, if_neg (by decide +kernel), if_neg (by decide +kernel), if_pos (show ((39 : UInt8) == 39) = true by decide), h3, List.nil_append, e2]
     simp
theorem ZiN {b : UInt8} {l : List UInt8} (hl : letB b = false) (hd : digB b = false) (hq : (b == 39) = false) (hsp : isSp b = false) (he : (signL (b :: l)).1.2 = 0) : tokO (signL (b :: l)).1.1 := by
 have hst : ∀ t, stepL (b :: t) = signL (b :: t) := fun t => by
   rw [stepL, if_neg (by rw [hl]; simp), if_neg (by rw [hd]; simp), if_neg (by rw [hq]; simp)]
 by_cases h2 : tryL (b :: l) 2 = true
 · cases l with
   | nil => unfold tryL at h2; simp at h2
   | cons c l =>
     have e : signL (b :: c :: l) = ((⟨5, bl [b, c], 0⟩, 0), 2) := by unfold signL; rw [if_pos h2]; rfl
     rw [e]
     have ht : ∀ t, tryL (b :: c :: t) 2 = tryL [b, c] 2 := fun t => by unfold tryL; simp
     refine ⟨⟨b, [c], rfl, hsp, fun r _ => ?_⟩, fun h => (by simp at h), fun h => (by simp at h), by show (bl [b, c]).size ≤ 2048; rw [Z4b]; simp⟩
     show stepL (b :: c :: r) = _
     rw [hst]
     unfold signL
     rw [if_pos (by rw [ht, ← ht l]; exact h2)]
     rfl
 · have h2 : tryL (b :: l) 2 = false := by simpa using h2
   by_cases h1 : tryL (b :: l) 1 = true
   · have e : signL (b :: l) = ((⟨5, bl [b], 0⟩, 0), 1) := by unfold signL; rw [if_neg (by rw [h2]; simp), if_pos h1]; rfl
     rw [e]
     have ht : ∀ t, tryL (b :: t) 1 = tryL [b] 1 := fun t => by unfold tryL; simp
     refine ⟨⟨b, [], rfl, hsp, fun r hr => ?_⟩, fun h => (by simp at h), fun h => (by simp at h), by show (bl [b]).size ≤ 2048; rw [Z4b]; simp⟩
     show stepL (b :: r) = _
     have h3 : tryL (b :: r) 2 = false := by
       rcases hr with rfl | ⟨t, rfl⟩
       · unfold tryL; simp
       · have : tryL (b :: 32 :: t) 2 = tryL [b, 32] 2 := by unfold tryL; simp
         rw [this, Zks (ZkC hsp)]
         simp
     rw [hst]
     unfold signL
     rw [if_neg (by rw [h3]; simp), if_pos (by rw [ht, ← ht l]; exact h1)]
     rfl
   · have e : signL (b :: l) = ((t3D, 30), 0) := by unfold signL; rw [if_neg (by rw [h2]; simp), if_neg h1]
     rw [e] at he
     cases he
theorem ZjC {b : UInt8} {l : List UInt8} (hsp : isSp b = false) (hsz : (b :: l).length ≤ 2048) (he : (stepL (b :: l)).1.2 = 0) : tokO (stepL (b :: l)).1.1 := by
 by_cases h1 : letB b = true
 · have hb : wordB b = true := (letters b).2.2.2.2.2.2.2.2.2.1 h1
   have hrun : runN wordB (b :: l) = runN wordB l + 1 := by rw [runN, if_pos hb]
   have hst : stepL (b :: l) = (wordL (b :: l.take (runN wordB l)), runN wordB (b :: l)) := by
     rw [stepL, if_pos h1, hrun, List.take_succ_cons]
   rw [hst] at he ⊢
   refine ZjW h1 (fun c hc => Z8i wordB (b :: l) c (by rw [hrun, List.take_succ_cons]; exact hc)) ?_ he
   simp only [List.length_cons, List.length_take] at hsz ⊢
   omega
 have h1 : letB b = false := by simpa using h1
 by_cases h2 : digB b = true
 · have hst : stepL (b :: l) = (numL (b :: l), runN digB (b :: l)) := by rw [stepL, if_neg (by rw [h1]; simp), if_pos h2]
   rw [hst] at he ⊢
   exact Zj8 he
 have h2 : digB b = false := by simpa using h2
 by_cases h3 : (b == 39) = true
 · have hst : stepL (b :: l) = ((textL l []).1, (textL l []).2 + 1) := by rw [stepL, if_neg (by rw [h1]; simp), if_neg (by rw [h2]; simp), if_pos h3]
   rw [hst] at he ⊢
   exact Zjp he
 have h3 : (b == 39) = false := by simpa using h3
 have hst : stepL (b :: l) = signL (b :: l) := by rw [stepL, if_neg (by rw [h1]; simp), if_neg (by rw [h2]; simp), if_neg (by rw [h3]; simp)]
 rw [hst] at he ⊢
 exact ZiN h1 h2 h3 hsp he
theorem Zff : ∀ (l : List UInt8) {b : UInt8} {r : List UInt8}, l.drop (runN isSp l) = b :: r → isSp b = false
 | [], _, _, h => by simp [runN] at h
 | c :: l, b, r, h => by
   by_cases hc : isSp c = true
   · rw [runN, if_pos hc, List.drop_succ_cons] at h
     exact Zff l h
   · rw [runN, if_neg hc, List.drop_zero] at h
     injection h with h1 h2
     subst h1
     simpa using hc
theorem Zfr : ∀ (f : Nat) (l : List UInt8), l.length ≤ 2048 → ∀ x ∈ (allG f l).1, tokO x
 | 0, _, _, x, h => by cases h
 | f + 1, l, hl, x, h => by
   unfold allG at h
   cases hd : l.drop (runN isSp l) with
   | nil => rw [hd] at h; cases h
   | cons b r =>
     rw [hd] at h
     dsimp only at h
     have hlen : (b :: r).length ≤ 2048 := by rw [← hd, List.length_drop]; omega
     split at h
     · cases h
     · rename_i he
       split at h
       · cases h
       · rcases List.mem_cons.1 h with rfl | h
         · exact ZjC (Zff l hd) hlen (by simpa using he)
         · exact Zfr f _ (by rw [List.length_drop]; omega) x h
theorem ZjS (l : List UInt8) : ∀ x ∈ (lexL l).1, tokO x := by
 unfold lexL
 split
 · intro x h; cases h
 · rename_i h
   exact Zfr _ l (by simp at h; omega)
theorem ZeT : ∀ (k u : Nat), u < 10 ^ (k + 1) → Lib.nDigits u ≤ k + 1
 | 0, u, h => by rw [Lib.nDigits_small (by simpa using h)]; exact Nat.le_refl _
 | k + 1, u, h => by
   by_cases h10 : u < 10
   · rw [Lib.nDigits_small h10]; omega
   · rw [Lib.nDigits_big h10]
     have := ZeT k (u / 10) (by rw [Nat.pow_succ] at h; omega)
     omega
theorem Zef {n : Int} (h0 : 0 ≤ n) (h1 : n ≤ 9223372036854775807) : (Lib.itoa n).length ≤ 19 := by
 unfold Lib.itoa
 rw [if_neg qM, Lib.decDigits_length]
 exact ZeT 18 _ (by have : (10 : Nat) ^ (18 + 1) = 10000000000000000000 := qD; omega)
end Go.Proofs.YtbedigkncjbggaaGreatDoor
namespace Go.Pz
open Go Go.Vc
abbrev agv (cs : List Value) : Value := .agg cs.toArray
theorem Zcx {x : Ex} {cs : List Value} {w : World} (h : ExR x (.agg cs.toArray) w) : ∃ k vk vn vs tb nm sl a len cap, cs = exCells k vk vn vs tb nm sl a len cap := by
 obtain ⟨k, vk, vn, vs, tb, nm, sl, a, len, cap, e⟩ := Z63 h
 exact ⟨k, vk, vn, vs, tb, nm, sl, a, len, cap, Z5s e⟩
theorem Z77 {x : Ex} {cs : List Value} {w : World} (h : ExR x (.agg cs.toArray) w) : cs.length = 8 := by
 obtain ⟨k, vk, vn, vs, tb, nm, sl, a, len, cap, rfl⟩ := Zcx h; rfl
theorem Zbz {x : Ex} {cs : List Value} {w : World} (h : ExR x (.agg cs.toArray) w) : ∀ u ∈ cs, u.oneCell' = true := by
 obtain ⟨k, vk, vn, vs, tb, nm, sl, a, len, cap, rfl⟩ := Zcx h
 intro u hu
 simp only [exCells, List.mem_cons, List.mem_nil_iff, or_false] at hu
 rcases hu with rfl|rfl|rfl|rfl|rfl|rfl|rfl|rfl <;> rfl
def exE : Enc Ex where
 sz := 8
 R x cs w := ExR x (.agg cs.toArray) w
 v := agv
 pos := by decide
 len := Z77
 one := Zbz
 nu h := by
   obtain ⟨k, n, h0⟩ := Z5t h
   exact ⟨_, h0, by simp [undef]⟩
 inj _ _ h := Z5s h
def itE : Enc Itm where
 sz := 9
 R x cs w := ∃ es, cs = .bool x.all :: es ∧ ExR x.ex (.agg es.toArray) w
 v := agv
 pos := by decide
 len := by rintro x cs w ⟨es, rfl, h⟩; simp [Z77 h]
 one := by
   rintro x cs w ⟨es, rfl, h⟩ u hu
   rcases List.mem_cons.1 hu with rfl | hu
   · rfl
   · exact Zbz h u hu
 nu := by rintro x cs w ⟨es, rfl, h⟩; exact ⟨_, rfl, by simp [undef]⟩
 inj _ _ h := Z5s h
def kyE : Enc Ky where
 sz := 9
 R x cs w := ∃ es, cs = es ++ [.bool x.desc] ∧ ExR x.ex (.agg es.toArray) w
 v := agv
 pos := by decide
 len := by rintro x cs w ⟨es, rfl, h⟩; simp [Z77 h]
 one := by
   rintro x cs w ⟨es, rfl, h⟩ u hu
   rcases List.mem_append.1 hu with hu | hu
   · exact Zbz h u hu
   · rw [List.mem_singleton.1 hu]; rfl
 nu := by
   rintro x cs w ⟨es, rfl, h⟩
   obtain ⟨k, n, h0⟩ := Z5t h
   exact ⟨_, by rw [List.getElem?_append_left (by rw [Z77 h]; decide)]; exact h0, by simp [undef]⟩
 inj _ _ h := Z5s h
def Col.cells (c : Col) : List Value := [.string c.nm, .int .i64 c.ty, .bool c.nn, .bool c.un]
def coE : Enc Col where
 sz := 4
 R x cs _ := cs = x.cells
 v := agv
 pos := by decide
 len := by rintro x cs w rfl; rfl
 one := by
   rintro x cs w rfl u hu
   simp only [Col.cells, List.mem_cons, List.mem_nil_iff, or_false] at hu
   rcases hu with rfl|rfl|rfl|rfl <;> rfl
 nu := by rintro x cs w rfl; exact ⟨_, rfl, by simp [undef]⟩
 inj _ _ h := Z5s h
abbrev hdv (cs : List Value) : Value := cs.headD undef
theorem Zcf {cs cs' : List Value} (h : cs.length = 1) (h' : cs'.length = 1) (e : hdv cs = hdv cs') : cs = cs' := by
 match cs, cs', h, h' with
 | [a], [b], _, _ => simpa [hdv] using e
def stE : Enc ByteArray where
 sz := 1
 R x cs _ := cs = [.string x]
 v := hdv
 pos := by decide
 len := by rintro x cs w rfl; rfl
 one := by rintro x cs w rfl u hu; rw [List.mem_singleton.1 hu]; rfl
 nu := by rintro x cs w rfl; exact ⟨_, rfl, by simp [undef]⟩
 inj := Zcf
theorem Za9 {xs : List Ex} {v : Value} {w : World} (h : ExsR xs v w) : ∃ a len cap, v = .slice a len cap := by
 obtain ⟨a, len, cap, e, _⟩ := h; exact ⟨a, len, cap, e⟩
def rwE : Enc (List Ex) where
 sz := 1
 R x cs w := ∃ v, cs = [v] ∧ ExsR x v w
 v := hdv
 pos := by decide
 len := by rintro x cs w ⟨v, rfl, h⟩; rfl
 one := by
   rintro x cs w ⟨v, rfl, h⟩ u hu
   obtain ⟨a, len, cap, rfl⟩ := Za9 h
   rw [List.mem_singleton.1 hu]; rfl
 nu := by
   rintro x cs w ⟨v, rfl, h⟩
   obtain ⟨a, len, cap, rfl⟩ := Za9 h
   exact ⟨_, rfl, by simp [undef]⟩
 inj := Zcf
def srE : Enc Src where
 sz := 3
 R x cs w := ∃ v, cs = [.string x.tb, .string x.nm, v] ∧ ExsR x.on v w
 v := agv
 pos := by decide
 len := by rintro x cs w ⟨v, rfl, h⟩; rfl
 one := by
   rintro x cs w ⟨v, rfl, h⟩ u hu
   obtain ⟨a, len, cap, rfl⟩ := Za9 h
   simp only [List.mem_cons, List.mem_nil_iff, or_false] at hu
   rcases hu with rfl|rfl|rfl <;> rfl
 nu := by rintro x cs w ⟨v, rfl, h⟩; exact ⟨_, rfl, by simp [undef]⟩
 inj _ _ h := Z5s h
theorem Cel.kids {ps : List (Cel exE)} {a : Option Addr} {len : Nat} {w : World} (h : RowG Cel.cs 8 ps a len w) (hF : CelF exE ps w) : KidsR (ps.map Cel.x) a len w := by
 obtain ⟨hl, hk⟩ := h
 refine ⟨by simp [hl], fun hn => ?_⟩
 obtain ⟨b, o, ha, hr⟩ := hk hn
 refine ⟨b, o, ha, Z7L (ps.map Cel.x) (ps.map Cel.cs) b o w (by simp) (fun i x cs hx hc => ?_) fun j v hj => ?_⟩
 · rw [List.getElem?_map] at hx hc
   cases hp : ps[i]? with
   | none => rw [hp] at hx; cases hx
   | some p =>
     rw [hp] at hx hc
     injection hx with hx
     injection hc with hc
     subst hx hc
     exact ⟨p.h, hF p (List.mem_of_getElem? hp)⟩
 · rw [← List.flatMap_def] at hj
   obtain ⟨x, hx, hu⟩ := Zc6 (enc := Cel.cs) (sz := 8) (fun x : Cel exE => x.h) qM hj
   have := hr _ x hx _ v hu
   rwa [show o + 8 * (j / 8) + j % 8 = o + j by rw [Nat.add_assoc, Nat.div_add_mod]] at this
theorem SlE.exs {G : GoS} {xs : List Ex} {v : Value} {w : World} (h : SlE exE G xs v w) : ExsR xs v w := by
 obtain ⟨ps, a, len, cap, rfl, rfl, _, h4, h5, _⟩ := h
 exact ⟨a, len, cap, rfl, Cel.kids h4 h5⟩
theorem Zlw (x : Ex) (v : Value) (w : World) : exE.T x v w ↔ ExR x v w := by
 constructor
 · rintro ⟨cs, rfl, h⟩; exact h
 · intro h
   obtain ⟨k, vk, vn, vs, tb, nm, sl, a, len, cap, e⟩ := Z63 h
   exact ⟨_, e, by show ExR x (Value.agg (exCells k vk vn vs tb nm sl a len cap).toArray) w; rw [← e]; exact h⟩
theorem Zar (x : Ex) : Ty.rep (ExR x) = Ty.rep (exE.T x) := by
 congr 1; funext v w; exact propext (Zlw x v w).symm
end Go.Pz
