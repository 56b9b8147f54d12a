/- slices: indices sorted by insertion. No condition. -/
import Derived.Test.YtgpikmonklainaaXM2
import Derived.Test.YtgpikmonklainaaXA
set_option maxRecDepth 20000
namespace Go.Proofs.Ytgpikmonklainaa
open Go Go.Vc
open Go.Vl Go.Od
abbrev ltF (cf : Nat → Nat → Int) : Nat → Nat → Bool := fun i j => decide (cf i j < 0)
theorem c_slices_insertionSortCmpFunc_int (fv : Value) (G : World → Prop) (n : Nat) (cf : Nat → Nat → Int) (hF : Fn2 Try.prog fv G n cf) (hw : Swo n (ltF cf)) (db sl : Nat) (A X C : List Nat) (hb : Bd n X) (hsl : sl = A.length + X.length + C.length) (hn : sl ≤ 1048576) : CallL Try.prog f_slices_insertionSortCmpFunc_int ([⟨db, ty_int, .is (.agg ((A ++ X ++ C).map iC).toArray)⟩]) [G] [.is (.slice (some ⟨db, 0, none⟩) sl sl), .is (.int .i64 ((A.length : Nat))), .is (.int .i64 ((A.length + X.length : Nat))), .is fv] (fun Z : List Nat => Z.Perm X ∧ Srt (ltF cf) Z) (fun Z => [⟨db, ty_int, .is (.agg ((A ++ Z ++ C).map iC).toArray)⟩]) (fun _ => .is (.tuple #[])) :=
CallL.of (fn := Try.f60) Try.func60 (n := 53) rfl rfl rfl (fun _ _ => by kernel_rfl) fun E W hb0 => by
  refine J.eqL (L' := [⟨db, ty_int, .is (.agg ((A ++ X.take 1 ++ X.drop 1 ++ C).map iC).toArray)⟩]) (by rw [List.append_assoc A (X.take 1), List.take_append_drop]) ?_
  repeat refine J.seq ?_
  refine J.plain ?_
  refine JO.t (ob_move rfl) rfl ?_
  refine JO.t (ob_addc (cc := ((A.length + 1 : Nat) : Int)) rfl rfl (by omega) (by omega) (by omega)) rfl ?_
  refine JO.t (ob_assign rfl) rfl ?_
  refine JO.nil ?_
  repeat (first | refine JX.next ?_ | refine JX.normal_block ?_)
  refine J.sel [0, 1, 2, 3, 8] (.cons rfl (.cons rfl (.cons rfl (.cons rfl (.cons rfl .nil))))) ?_
  repeat refine J.seq ?_
  refine J.block ?_
  repeat refine J.seq ?_
  refine J.loopG (α := Nat × List Nat × List Nat) (fun y => [(0, .is (.slice (some ⟨db, 0, none⟩) sl sl)), (1, .is (.int .i64 ((A.length : Nat)))), (2, .is (.int .i64 ((A.length + X.length : Nat)))), (3, .is fv), (8, .is (.int .i64 ((y.1 : Nat))))]) (fun y => [⟨db, ty_int, .is (.agg ((A ++ y.2.1 ++ y.2.2 ++ C).map iC).toArray)⟩]) (fun y => fun _ => True) (fun y => (y.2.1 ++ y.2.2).Perm X ∧ Srt (ltF cf) y.2.1 ∧ (y.2.1 ≠ [] → y.1 = A.length + y.2.1.length) ∧ (y.2.1 = [] → y.2.2 = [] ∧ y.1 = A.length + 1)) (fun y => A.length + X.length + 1 - y.1) (A.length + 1, X.take 1, X.drop 1) [0, 1, 2, 3, 8] (.cons rfl (.cons rfl (.cons rfl (.cons rfl (.cons rfl .nil))))) rfl (fun _ => trivial) ⟨by show (X.take 1 ++ X.drop 1).Perm X; rw [List.take_append_drop], by cases X <;> simp [Srt], by cases X <;> simp, by cases X <;> simp⟩ fun ⟨i, S, R⟩ ⟨hpm, hS, hi1, hi2⟩ => ?_
  try dsimp only
  try dsimp only at S
  try dsimp only at R
  try dsimp only at hpm
  try dsimp only at hS
  try dsimp only at hi1
  try dsimp only at hi2
  repeat refine J.seq ?_
  refine J.plain ?_
  refine JO.t (ob_move rfl) rfl ?_
  refine JO.t (ob_move rfl) rfl ?_
  refine JO.t (ob_lss rfl rfl) rfl ?_
  refine JO.nil ?_
  repeat (first | refine JX.next ?_ | refine JX.normal_block ?_)
  refine J.sel [0, 1, 2, 3, 8, 14] (.cons rfl (.cons rfl (.cons rfl (.cons rfl (.cons rfl (.cons rfl .nil)))))) ?_
  repeat refine J.seq ?_
  refine J.cond rfl (fun ht14 => ?_) (fun ht14 => ?_)
  ·
    try simp only [decide_eq_true_eq, decide_eq_false_iff_not] at ht14
    refine J.skip ?_
    repeat (first | refine JX.next ?_ | refine JX.normal_block ?_)
    repeat refine J.seq ?_
    refine J.block ?_
    have hSne : S ≠ [] := fun h => by
      obtain ⟨h1, h2⟩ := hi2 h
      have := hpm.length_eq
      rw [h, h1] at this
      simp at this
      omega
    have hi3 := hi1 hSne
    have hlX := hpm.length_eq
    rw [List.length_append] at hlX
    obtain ⟨x, R2, rfl⟩ : ∃ x R2, R = x :: R2 := by
      cases R with
      | nil => simp at hlX; omega
      | cons x R2 => exact ⟨x, R2, rfl⟩
    have hxn : x < n := hb x (hpm.mem_iff.1 (by simp))
    have hSn : ∀ y ∈ S, y < n := fun y hy => hb y (hpm.mem_iff.1 (by simp [hy]))
    rw [List.length_cons] at hlX
    subst hi3
    refine J.eqL (L' := [⟨db, ty_int, .is (.agg ((insD A S x (R2 ++ C) S.length).map iC).toArray)⟩]) (by unfold insD; simp) ?_
    repeat refine J.seq ?_
    refine J.plain ?_
    refine JO.t (ob_move rfl) rfl ?_
    refine JO.t (ob_assign rfl) rfl ?_
    refine JO.nil ?_
    repeat (first | refine JX.next ?_ | refine JX.normal_block ?_)
    refine J.sel [0, 1, 2, 3, 8, 9] (.cons rfl (.cons rfl (.cons rfl (.cons rfl (.cons rfl (.cons rfl .nil)))))) ?_
    repeat refine J.seq ?_
    refine J.block ?_
    repeat refine J.seq ?_
    refine J.loopG (α := Nat) (fun y => [(0, .is (.slice (some ⟨db, 0, none⟩) sl sl)), (1, .is (.int .i64 ((A.length : Nat)))), (2, .is (.int .i64 ((A.length + X.length : Nat)))), (3, .is fv), (8, .is (.int .i64 ((A.length + S.length : Nat)))), (9, .is (.int .i64 ((A.length + y : Nat))))]) (fun y => [⟨db, ty_int, .is (.agg ((insD A S x (R2 ++ C) y).map iC).toArray)⟩]) (fun y => fun _ => True) (fun y => y ≤ S.length ∧ ∀ q ∈ S.drop y, ltF cf x q = true) (fun y => y) S.length [0, 1, 2, 3, 8, 9] (.cons rfl (.cons rfl (.cons rfl (.cons rfl (.cons rfl (.cons rfl .nil)))))) rfl (fun _ => trivial) ⟨Nat.le_refl _, fun q hq => by rw [List.drop_length] at hq; cases hq⟩ fun p ⟨hp, hq⟩ => ?_
    try dsimp only
    try dsimp only at hp
    try dsimp only at hq
    have hlen := insD_len (A := A) (R := R2 ++ C) (x := x) hp
    rw [List.length_append] at hlen
    repeat refine J.seq ?_
    refine J.reg0 hmx (by kernel_rfl) (by kernel_rfl) ?_
    refine RT.t (ob_move rfl) ?_
    refine RT.t (ob_move rfl) ?_
    refine RT.t (ob_gtr rfl rfl) ?_
    refine RT.t (ob_move rfl) ?_
    refine RT.g rfl rfl rfl (fun hg => ob_move (.inl rfl)) ?_
    refine RT.g rfl rfl rfl (fun hg => ob_move (.inl rfl)) ?_
    refine RT.g rfl rfl rfl (fun hg => ob_move (.inl rfl)) ?_
    refine RT.g rfl rfl rfl (fun hg => ob_indexAddr el_sl_int (.inr ⟨_, rfl, fun h => h⟩) rfl (.inr ⟨_, rfl, fun h => h⟩) (by omega) (by omega)) ?_
    refine RT.g rfl rfl rfl (fun hg => ob_ld1 sz_int (.inr ⟨_, rfl, fun h => h⟩) (nth_int (l := insD A S x (R2 ++ C) p) (i := A.length + p) (by rw [hlen]; omega) (by omega))) ?_
    refine RT.g rfl rfl rfl (fun hg => ob_move (.inl rfl)) ?_
    refine RT.g rfl rfl rfl (fun hg => ob_move (.inl rfl)) ?_
    refine RT.g rfl rfl rfl (fun hg => ob_subc (cc := ((A.length + p - 1 : Nat) : Int)) (.inr ⟨_, rfl, fun h => h⟩) (.inl rfl) (by simp at hg; omega) (by omega) (by omega)) ?_
    refine RT.g rfl rfl rfl (fun hg => ob_indexAddr el_sl_int (.inr ⟨_, rfl, fun h => h⟩) rfl (.inr ⟨_, rfl, fun h => h⟩) (by omega) (by omega)) ?_
    refine RT.g rfl rfl rfl (fun hg => ob_ld1 sz_int (.inr ⟨_, rfl, fun h => h⟩) (nth_int (l := insD A S x (R2 ++ C) p) (i := A.length + p - 1) (by rw [hlen]; omega) (by omega))) ?_
    refine RT.g rfl rfl rfl (fun hg => ob_call2 (.inr ⟨_, rfl, fun h => h⟩) hF (by simp) (.inr ⟨_, rfl, fun h => h⟩) (.inr ⟨_, rfl, fun h => h⟩) (by rw [insD_get hp]; exact hxn) (by rw [insD_get1 (by simp at hg; omega) hp]; exact hSn _ (getD_mem (by simp at hg; omega)))) ?_
    refine RT.g rfl rfl rfl (fun hg => ob_lss (.inr ⟨_, rfl, fun h => h⟩) (.inl rfl)) ?_
    refine RT.t (ob_pickAnd rfl rfl rfl id) ?_
    refine RT.nil ?_
    refine FinS.nil0 ?_
    repeat (first | refine JX.next ?_ | refine JX.normal_block ?_)
    refine J.sel [0, 1, 2, 3, 8, 9, 34] (.cons rfl (.cons rfl (.cons rfl (.cons rfl (.cons rfl (.cons rfl (.cons rfl .nil))))))) ?_
    repeat refine J.seq ?_
    refine J.cond rfl (fun ht34 => ?_) (fun ht34 => ?_)
    ·
      try simp only [decide_eq_true_eq, decide_eq_false_iff_not] at ht34
      refine J.skip ?_
      repeat (first | refine JX.next ?_ | refine JX.normal_block ?_)
      repeat refine J.seq ?_
      refine J.block ?_
      simp only [Bool.and_eq_true, decide_eq_true_eq] at ht34
      rw [insD_get hp, insD_get1 (by omega) hp] at ht34
      repeat refine J.seq ?_
      refine J.regFl 15 [⟨2, 39, [0]⟩, ⟨3, 40, [9]⟩, ⟨4, 41, [40]⟩] [0, 9] (sgv [(0, .slice (some ⟨db, 0, none⟩) sl sl), (9, .int .i64 ((A.length + p : Nat))), (39, .slice (some ⟨db, 0, none⟩) sl sl), (40, .int .i64 ((A.length + p : Nat))), (41, .int .i64 ((A.length + p - 1 : Nat)))]) hmx (by kernel_rfl) rfl rfl rfl (fun _ _ h => by cases h) (by simp [Op.operands]) (by kernel_rfl) ⟨rfl, rfl, trivial⟩ ⟨fl_mv (s := 0) rfl rfl (by simp) rfl, fl_mv (s := 9) rfl rfl (by simp) rfl, fl_subc (s := 40) (p := ((A.length + p : Nat) : Int)) (q := 1) (r := ((A.length + p - 1 : Nat) : Int)) rfl rfl (by simp) rfl rfl (by omega) (by omega) (by omega), trivial⟩ ?_
      refine RT.t (ob_move rfl) ?_
      refine RT.t (ob_move rfl) ?_
      refine RT.t (ob_move rfl) ?_
      refine RT.t (ob_move rfl) ?_
      refine RT.t (ob_subc (cc := ((A.length + p - 1 : Nat) : Int)) rfl rfl (by omega) (by omega) (by omega)) ?_
      refine RT.t (ob_move rfl) ?_
      refine RT.t (ob_move rfl) ?_
      refine RT.t (ob_subc (cc := ((A.length + p - 1 : Nat) : Int)) rfl rfl (by omega) (by omega) (by omega)) ?_
      refine RT.t (ob_indexAddr el_sl_int rfl rfl rfl (by omega) (by omega)) ?_
      refine RT.t (ob_ld1 sz_int rfl (nth_int (l := insD A S x (R2 ++ C) p) (i := A.length + p - 1) (by rw [hlen]; omega) (by omega))) ?_
      refine RT.t (ob_move rfl) ?_
      refine RT.t (ob_move rfl) ?_
      refine RT.t (ob_indexAddr el_sl_int rfl rfl rfl (by omega) (by omega)) ?_
      refine RT.t (ob_ld1 sz_int rfl (nth_int (l := insD A S x (R2 ++ C) p) (i := A.length + p) (by rw [hlen]; omega) (by omega))) ?_
      refine RT.t (ob_indexAddr el_sl_int rfl rfl rfl (by omega) (by omega)) ?_
      refine RT.nil ?_
      refine FinS.tailF (L' := [⟨db, ty_int, .is (.agg (((insD A S x (R2 ++ C) p).set (A.length + p) ((insD A S x (R2 ++ C) p).getD (A.length + p - 1) 0)).map iC).toArray)⟩]) ?_ ?_ ?_
      rotate_left
      · exact obm_storeF1 (cs := (insD A S x (R2 ++ C) p).map iC) (cs' := ((insD A S x (R2 ++ C) p).set (A.length + p) ((insD A S x (R2 ++ C) p).getD (A.length + p - 1) 0)).map iC) rfl rfl rfl rfl (by repeat (first | exact .here | apply Upd.there)) (by rw [show 0 + Int.toNat ((A.length + p : Nat) : Int) * 1 = A.length + p by omega]; exact splice_set iC _ _ _ (by first | (rw [hlen]; omega) | (rw [List.length_set, hlen]; omega))) (Nat.ble_eq_true_of_le (by rw [List.length_map, hlen]; omega)) ss_int
      rotate_left
      · rfl
      refine JO.t (ob_indexAddr el_sl_int rfl rfl rfl (by omega) (by omega)) rfl ?_
      refine JO.m (obm_storeF1 (cs := ((insD A S x (R2 ++ C) p).set (A.length + p) ((insD A S x (R2 ++ C) p).getD (A.length + p - 1) 0)).map iC) (cs' := (((insD A S x (R2 ++ C) p).set (A.length + p) ((insD A S x (R2 ++ C) p).getD (A.length + p - 1) 0)).set (A.length + p - 1) ((insD A S x (R2 ++ C) p).getD (A.length + p) 0)).map iC) rfl rfl rfl rfl (by repeat (first | exact .here | apply Upd.there)) (by rw [show 0 + Int.toNat ((A.length + p - 1 : Nat) : Int) * 1 = A.length + p - 1 by omega]; exact splice_set iC _ _ _ (by first | (rw [hlen]; omega) | (rw [List.length_set, hlen]; omega))) (Nat.ble_eq_true_of_le (by rw [List.length_map, List.length_set, hlen]; omega)) ss_int) (by rfl) ?_
      refine JO.eqL (L' := [⟨db, ty_int, .is (.agg ((insD A S x (R2 ++ C) (p - 1)).map iC).toArray)⟩]) (by rw [← insD_dn (by omega) hp]; rfl) ?_
      refine JO.nil ?_
      repeat (first | refine JX.next ?_ | refine JX.normal_block ?_)
      refine J.sel [0, 1, 2, 3, 8, 9] (.cons rfl (.cons rfl (.cons rfl (.cons rfl (.cons rfl (.cons rfl .nil)))))) ?_
      repeat refine J.seq ?_
      refine J.plain ?_
      refine JO.t (ob_move rfl) rfl ?_
      refine JO.t (ob_subc (cc := ((A.length + (p - 1) : Nat) : Int)) rfl rfl (by omega) (by omega) (by omega)) rfl ?_
      refine JO.t (ob_assign rfl) rfl ?_
      refine JO.nil ?_
      repeat refine JX.normal_block ?_
      refine JX.roundG (x := p) (p - 1) ?_ ?_ [0, 1, 2, 3, 8, 9] ?_ ?_ ?_ ?_
      · exact ⟨by show p - 1 ≤ S.length; omega, fun q hq2 => by
    rw [drop_get (getD_some (d := 0) (show p - 1 < S.length by omega)), show p - 1 + 1 = p by omega] at hq2
    rcases List.mem_cons.1 hq2 with rfl | hq2
    · exact decide_eq_true ht34.2
    · exact hq q hq2⟩
      · exact (by show p - 1 < p; omega)
      · exact (.cons rfl (.cons rfl (.cons rfl (.cons rfl (.cons rfl (.cons rfl .nil))))))
      · repeat (first | exact .all | exact .nil | refine Has.own (by repeat (first | exact .here | apply Tl.past | apply Tl.there)) ?_ | refine Has.cons (by repeat (first | exact .here | apply Pk.past | apply Pk.there)) ?_)
      · exact fun G hG => by repeat (first | exact hG | refine List.mem_cons_of_mem _ ?_)
      · exact fun _ _ _ => fun _ _ => trivial
    ·
      try simp only [decide_eq_true_eq, decide_eq_false_iff_not] at ht34
      repeat refine J.seq ?_
      refine J.exit ?_
      repeat (first | refine JX.hit ?_ | refine JX.miss rfl ?_ | refine JX.exit_pass ?_)
      repeat (first | refine JX.next ?_ | refine JX.normal_block ?_)
      have hsrt : Srt (ltF cf) (S.take p ++ x :: S.drop p) := by
        refine srt_ins hw (fun y hy => hSn y (List.mem_of_mem_take hy)) (fun y hy => hSn y (List.mem_of_mem_drop hy)) hxn (by rw [List.take_append_drop]; exact hS) hq ?_
        by_cases h0 : p = 0
        · left; rw [h0, List.take_zero]
        · right
          refine ⟨S.take (p - 1), S.getD (p - 1) 0, ?_, ?_⟩
          · conv => lhs; rw [show p = (p - 1) + 1 by omega]
            rw [List.take_add_one, getD_some (d := 0) (by omega)]
            rfl
          · rw [insD_get hp, insD_get1 (by omega) hp] at ht34
            simp only [Bool.and_eq_false_iff, decide_eq_false_iff_not] at ht34
            refine decide_eq_false ?_
            rcases ht34 with h | h
            · omega
            · exact h
      refine J.eqL (L' := [⟨db, ty_int, .is (.agg ((A ++ (S.take p ++ x :: S.drop p) ++ R2 ++ C).map iC).toArray)⟩]) (by unfold insD; simp) ?_
      repeat refine J.seq ?_
      refine J.plain ?_
      refine JO.t (ob_move rfl) rfl ?_
      refine JO.t (ob_addc (cc := ((A.length + S.length + 1 : Nat) : Int)) rfl rfl (by omega) (by omega) (by omega)) rfl ?_
      refine JO.t (ob_assign rfl) rfl ?_
      refine JO.nil ?_
      repeat refine JX.normal_block ?_
      refine JX.roundG (x := (A.length + S.length, S, x :: R2)) (A.length + S.length + 1, S.take p ++ x :: S.drop p, R2) ?_ ?_ [0, 1, 2, 3, 8] ?_ ?_ ?_ ?_
      · exact ⟨by
    show (S.take p ++ x :: S.drop p ++ R2).Perm X
    refine List.Perm.trans ?_ hpm
    rw [List.append_assoc, List.cons_append]
    refine List.perm_middle.trans ?_
    rw [← List.append_assoc, List.take_append_drop]
    exact List.perm_middle.symm, hsrt, fun _ => by show A.length + S.length + 1 = A.length + (S.take p ++ x :: S.drop p).length; rw [List.length_append, List.length_cons, List.length_take, List.length_drop]; omega, fun h => by simp at h⟩
      · exact (by show A.length + X.length + 1 - (A.length + S.length + 1) < A.length + X.length + 1 - (A.length + S.length); omega)
      · exact (.cons rfl (.cons rfl (.cons rfl (.cons rfl (.cons rfl .nil)))))
      · repeat (first | exact .all | exact .nil | refine Has.own (by repeat (first | exact .here | apply Tl.past | apply Tl.there)) ?_ | refine Has.cons (by repeat (first | exact .here | apply Pk.past | apply Pk.there)) ?_)
      · exact fun G hG => by repeat (first | exact hG | refine List.mem_cons_of_mem _ ?_)
      · exact fun _ _ _ => fun _ _ => trivial
  ·
    try simp only [decide_eq_true_eq, decide_eq_false_iff_not] at ht14
    repeat refine J.seq ?_
    refine J.exit ?_
    repeat (first | refine JX.hit ?_ | refine JX.miss rfl ?_ | refine JX.exit_pass ?_)
    repeat (first | refine JX.next ?_ | refine JX.normal_block ?_)
    refine JX.normal_ret ?_
    have hR0 : R = [] := by
      have hlX := hpm.length_eq
      rw [List.length_append] at hlX
      cases R with
      | nil => rfl
      | cons x R2 =>
        exfalso
        by_cases hSe : S = []
        · have := (hi2 hSe).1
          cases this
        · have := hi1 hSe
          rw [List.length_cons] at hlX
          omega
    subst hR0
    rw [List.append_nil] at hpm
    exact JX.retL0 (Lr := []) (L1 := fun Z => [⟨db, ty_int, .is (.agg ((A ++ Z ++ C).map iC).toArray)⟩]) rfl S ⟨hpm, hS⟩ (List.Perm.of_eq (by rw [List.append_nil]; simp)) rfl hb0 rfl
end Go.Proofs.Ytgpikmonklainaa
