/- slices: two sorted parts of a row of indices become one. No condition. -/
import Derived.Test.YtgpikmonklainaaXGD
import Derived.Test.YtgpikmonklainaaXGE
set_option maxRecDepth 20000
namespace Go.Proofs.Ytgpikmonklainaa
open Go Go.Vc
open Go.Vl Go.Od
def SymOK (fv : Value) (G : World → Prop) (n : Nat) (cf : Nat → Nat → Int) (db sl N : Nat) : Prop := ∀ A X Y C : List Nat, X.length + Y.length < N → X ≠ [] → Y ≠ [] → Bd n (A ++ X ++ Y ++ C) → Srt (ltF cf) X → Srt (ltF cf) Y → sl = A.length + X.length + Y.length + C.length → CallL Try.prog f_slices_symMergeCmpFunc_int ([⟨db, ty_int, .is (.agg ((A ++ X ++ Y ++ C).map iC).toArray)⟩]) [G] [.is (.slice (some ⟨db, 0, none⟩) sl sl), .is (.int .i64 ((A.length : Nat))), .is (.int .i64 ((A.length + X.length : Nat))), .is (.int .i64 ((A.length + X.length + Y.length : Nat))), .is fv] (fun Z : List Nat => Z.Perm (X ++ Y) ∧ Srt (ltF cf) Z) (fun Z => [⟨db, ty_int, .is (.agg ((A ++ Z ++ C).map iC).toArray)⟩]) (fun _ => .is (.tuple #[]))
set_option maxHeartbeats 2000000 in
theorem c_slices_symMergeCmpFunc_int (fv : Value) (G : World → Prop) (n : Nat) (cf : Nat → Nat → Int) (hF : Fn2 Try.prog fv G n cf) (hw : Swo n (ltF cf)) (db sl : Nat) (N : Nat) (IH : SymOK fv G n cf db sl N) (A X Y C : List Nat) (hN : X.length + Y.length < N + 1) (hX : X ≠ []) (hY : Y ≠ []) (hb : Bd n (A ++ X ++ Y ++ C)) (hsX : Srt (ltF cf) X) (hsY : Srt (ltF cf) Y) (hsl : sl = A.length + X.length + Y.length + C.length) (hn : sl ≤ 1048576) : CallL Try.prog f_slices_symMergeCmpFunc_int ([⟨db, ty_int, .is (.agg ((A ++ X ++ Y ++ C).map iC).toArray)⟩]) [G] [.is (.slice (some ⟨db, 0, none⟩) sl sl), .is (.int .i64 ((A.length : Nat))), .is (.int .i64 ((A.length + X.length : Nat))), .is (.int .i64 ((A.length + X.length + Y.length : Nat))), .is fv] (fun Z : List Nat => Z.Perm (X ++ Y) ∧ Srt (ltF cf) Z) (fun Z => [⟨db, ty_int, .is (.agg ((A ++ Z ++ C).map iC).toArray)⟩]) (fun _ => .is (.tuple #[])) :=
CallL.of (fn := Try.f61) Try.func61 (n := 220) rfl rfl rfl (fun _ _ => by kernel_rfl) fun E W hb0 => by
  have hXl : 0 < X.length := List.length_pos_iff.2 hX
  have hYl : 0 < Y.length := List.length_pos_iff.2 hY
  have hDl : (A ++ X ++ Y ++ C).length = A.length + X.length + Y.length + C.length := by simp only [List.length_append]
  have hg : ∀ i, i < A.length + X.length + Y.length + C.length → (A ++ X ++ Y ++ C).getD i 0 < n := fun i hi => hb _ (getD_mem (by rw [hDl]; exact hi))
  have bX : Bd n X := fun x hx => hb x (by simp [hx])
  have bY : Bd n Y := fun x hx => hb x (by simp [hx])
  repeat refine J.seq ?_
  refine J.plain ?_
  refine JO.t (ob_move rfl) rfl ?_
  refine JO.t (ob_move rfl) rfl ?_
  refine JO.t (ob_subv (v := ((X.length : Nat) : Int)) rfl rfl (by rw [wrap64_eq (by omega) (by omega)]; omega)) rfl ?_
  refine JO.t (ob_eql rfl rfl) rfl ?_
  refine JO.nil ?_
  repeat (first | refine JX.next ?_ | refine JX.normal_block ?_)
  refine J.sel [0, 1, 2, 3, 4, 28] (.cons rfl (.cons rfl (.cons rfl (.cons rfl (.cons rfl (.cons rfl .nil)))))) ?_
  repeat refine J.seq ?_
  refine J.cond rfl (fun ht28 => ?_) (fun ht28 => ?_)
  ·
    try simp only [decide_eq_true_eq, decide_eq_false_iff_not] at ht28
    have hX1 : X.length = 1 := by simp at ht28; omega
    obtain ⟨x, hx⟩ : ∃ x, X = [x] := List.length_eq_one_iff.1 hX1
    have hxn : x < n := bX x (by rw [hx]; simp)
    have hx0 : (A ++ X ++ Y ++ C).getD A.length 0 = x := by
      have h := getX A X Y C (i := 0) (by omega)
      rw [Nat.add_zero] at h
      rw [h, hx]
      rfl
    repeat refine J.seq ?_
    refine J.plain ?_
    refine JO.t (ob_move rfl) rfl ?_
    refine JO.t (ob_assign rfl) rfl ?_
    refine JO.nil ?_
    repeat (first | refine JX.next ?_ | refine JX.normal_block ?_)
    refine J.sel [0, 1, 3, 4, 10] (.cons rfl (.cons rfl (.cons rfl (.cons rfl (.cons rfl .nil))))) ?_
    repeat refine J.seq ?_
    refine J.plain ?_
    refine JO.t (ob_move rfl) rfl ?_
    refine JO.t (ob_assign rfl) rfl ?_
    refine JO.nil ?_
    repeat (first | refine JX.next ?_ | refine JX.normal_block ?_)
    refine J.sel [0, 1, 4, 10, 11] (.cons rfl (.cons rfl (.cons rfl (.cons rfl (.cons rfl .nil))))) ?_
    repeat refine J.seq ?_
    refine J.block ?_
    repeat refine J.seq ?_
    refine J.loopF (α := Nat × Nat) (fun y => [(0, .is (.slice (some ⟨db, 0, none⟩) sl sl)), (1, .is (.int .i64 ((A.length : Nat)))), (4, .is fv), (10, .is (.int .i64 ((A.length + X.length + y.1 : Nat)))), (11, .is (.int .i64 ((A.length + X.length + y.2 : Nat))))]) (fun y => y.1 ≤ y.2 ∧ y.2 ≤ Y.length ∧ (∀ t, t < y.1 → ltF cf (Y.getD t 0) x = true) ∧ ∀ t, y.2 ≤ t → t < Y.length → ltF cf (Y.getD t 0) x = false) (fun y => y.2 - y.1) (0, Y.length) [0, 1, 4, 10, 11] (.cons rfl (.cons rfl (.cons rfl (.cons rfl (.cons rfl .nil))))) ⟨Nat.zero_le _, Nat.le_refl _, fun t ht => absurd ht (Nat.not_lt_zero _), fun t h1 h2 => by omega⟩ fun ⟨s, r⟩ ⟨hsr, hr, hlt, hge⟩ => ?_
    repeat refine J.seq ?_
    refine J.plain ?_
    refine JO.t (ob_move rfl) rfl ?_
    refine JO.t (ob_move rfl) rfl ?_
    refine JO.t (ob_lss rfl rfl) rfl ?_
    refine JO.nil ?_
    repeat (first | refine JX.next ?_ | refine JX.normal_block ?_)
    refine J.sel [0, 1, 4, 10, 11, 33] (.cons rfl (.cons rfl (.cons rfl (.cons rfl (.cons rfl (.cons rfl .nil)))))) ?_
    repeat refine J.seq ?_
    refine J.cond rfl (fun ht33 => ?_) (fun ht33 => ?_)
    ·
      try simp only [decide_eq_true_eq, decide_eq_false_iff_not] at ht33
      refine J.skip ?_
      repeat (first | refine JX.next ?_ | refine JX.normal_block ?_)
      repeat refine J.seq ?_
      refine J.block ?_
      repeat refine J.seq ?_
      refine J.plain ?_
      refine JO.t (ob_move rfl) rfl ?_
      refine JO.t (ob_move rfl) rfl ?_
      refine JO.t (ob_addv (v := ((A.length + X.length + s + (A.length + X.length + r) : Nat) : Int)) rfl rfl (by rw [wrap64_eq (by omega) (by omega)]; omega)) rfl ?_
      refine JO.t (ob_convIIe (cc := ((A.length + X.length + s + (A.length + X.length + r) : Nat) : Int)) ⟨_, un_int⟩ un_uint rfl (by rw [wrap_u64]; omega)) rfl ?_
      refine JO.t (ob_shrv (v := (((A.length + X.length + s + (A.length + X.length + r)) / 2 : Nat) : Int)) rfl rfl (by omega) (by show Int.fdiv _ 2 = _; rw [Int.fdiv_eq_ediv_of_nonneg _ (by omega)]; omega)) rfl ?_
      refine JO.t (ob_convIIe (cc := (((A.length + X.length + s + (A.length + X.length + r)) / 2 : Nat) : Int)) ⟨_, un_uint⟩ un_int rfl (wrap64_eq (by omega) (by omega))) rfl ?_
      refine JO.t (ob_assign rfl) rfl ?_
      refine JO.nil ?_
      repeat (first | refine JX.next ?_ | refine JX.normal_block ?_)
      refine J.sel [0, 1, 4, 10, 11, 12] (.cons rfl (.cons rfl (.cons rfl (.cons rfl (.cons rfl (.cons rfl .nil)))))) ?_
      obtain ⟨q, hq⟩ : ∃ q, (A.length + X.length + s + (A.length + X.length + r)) / 2 = A.length + X.length + q := ⟨(A.length + X.length + s + (A.length + X.length + r)) / 2 - (A.length + X.length), by omega⟩
      rw [hq]
      have hqy : (A ++ X ++ Y ++ C).getD (A.length + X.length + q) 0 = Y.getD q 0 := getY A X Y C (i := q) (by omega)
      repeat refine J.seq ?_
      refine J.reg0 hmx (by kernel_rfl) (by kernel_rfl) ?_
      refine RT.t (ob_move rfl) ?_
      refine RT.t (ob_move rfl) ?_
      refine RT.t (ob_move rfl) ?_
      refine RT.t (ob_indexAddr el_sl_int rfl rfl rfl (by omega) (by omega)) ?_
      refine RT.t (ob_ld1 sz_int rfl (nth_int (l := A ++ X ++ Y ++ C) (i := A.length + X.length + q) (by rw [hDl]; omega) (by omega))) ?_
      refine RT.t (ob_move rfl) ?_
      refine RT.t (ob_move rfl) ?_
      refine RT.t (ob_indexAddr el_sl_int rfl rfl rfl (by omega) (by omega)) ?_
      refine RT.t (ob_ld1 sz_int rfl (nth_int (l := A ++ X ++ Y ++ C) (i := A.length) (by rw [hDl]; omega) (by omega))) ?_
      refine RT.t (ob_call2 rfl hF (by simp) rfl rfl (hg _ (by omega)) (hg _ (by omega))) ?_
      refine RT.t (ob_lss rfl rfl) ?_
      refine RT.nil ?_
      refine FinS.nil0 ?_
      repeat (first | refine JX.next ?_ | refine JX.normal_block ?_)
      refine J.sel [0, 1, 4, 10, 11, 12, 50] (.cons rfl (.cons rfl (.cons rfl (.cons rfl (.cons rfl (.cons rfl (.cons rfl .nil))))))) ?_
      repeat refine J.seq ?_
      refine J.cond rfl (fun ht50 => ?_) (fun ht50 => ?_)
      ·
        try simp only [decide_eq_true_eq, decide_eq_false_iff_not] at ht50
        have hcq : ltF cf (Y.getD q 0) x = true := by rw [← hqy, ← hx0]; exact decide_eq_true ht50
        repeat refine J.seq ?_
        refine J.plain ?_
        refine JO.t (ob_move rfl) rfl ?_
        refine JO.t (ob_addc (cc := ((A.length + X.length + (q + 1) : Nat) : Int)) rfl rfl (by omega) (by omega) (by omega)) rfl ?_
        refine JO.t (ob_assign rfl) rfl ?_
        refine JO.nil ?_
        repeat refine JX.normal_block ?_
        refine JX.roundS (q + 1, r) ?_ ?_ [0, 1, 4, 10, 11] ?_ ?_ ?_
        · exact ⟨by show q + 1 ≤ r; omega, hr, (fun t ht => by
    have ht : t < q + 1 := ht
    cases hc : ltF cf (Y.getD t 0) x with
    | true => rfl
    | false =>
      have := hw.ntr _ _ _ (bY _ (getD_mem (by omega))) (bY _ (getD_mem (by omega))) hxn (srt_get hw bY hsY (show t ≤ q by omega) (by omega)) hc
      rw [hcq] at this; cases this), hge⟩
        · exact (by show r - (q + 1) < r - s; omega)
        · exact (.cons rfl (.cons rfl (.cons rfl (.cons rfl (.cons rfl .nil)))))
        · repeat (first | exact .slnil | exact List.Sublist.refl _ | apply List.Sublist.cons_cons | apply List.Sublist.cons)
        · repeat (first | exact .slnil | exact List.Sublist.refl _ | apply List.Sublist.cons_cons | apply List.Sublist.cons)
      ·
        try simp only [decide_eq_true_eq, decide_eq_false_iff_not] at ht50
        have hcq : ltF cf (Y.getD q 0) x = false := by rw [← hqy, ← hx0]; exact decide_eq_false ht50
        repeat refine J.seq ?_
        refine J.plain ?_
        refine JO.t (ob_move rfl) rfl ?_
        refine JO.t (ob_assign rfl) rfl ?_
        refine JO.nil ?_
        repeat refine JX.normal_block ?_
        refine JX.roundS (s, q) ?_ ?_ [0, 1, 4, 10, 11] ?_ ?_ ?_
        · exact ⟨by show s ≤ q; omega, by show q ≤ _; omega, hlt, fun t h1 h2 => by
    have h1 : q ≤ t := h1
    exact hw.ntr _ _ _ (bY _ (getD_mem h2)) (bY _ (getD_mem (by omega))) hxn (srt_get hw bY hsY h1 h2) hcq⟩
        · exact (by show q - s < r - s; omega)
        · exact (.cons rfl (.cons rfl (.cons rfl (.cons rfl (.cons rfl .nil)))))
        · repeat (first | exact .slnil | exact List.Sublist.refl _ | apply List.Sublist.cons_cons | apply List.Sublist.cons)
        · repeat (first | exact .slnil | exact List.Sublist.refl _ | apply List.Sublist.cons_cons | apply List.Sublist.cons)
    ·
      try simp only [decide_eq_true_eq, decide_eq_false_iff_not] at ht33
      repeat refine J.seq ?_
      refine J.exit ?_
      repeat (first | refine JX.hit ?_ | refine JX.miss rfl ?_ | refine JX.exit_pass ?_)
      repeat (first | refine JX.next ?_ | refine JX.normal_block ?_)
      refine J.eqL (L' := [⟨db, ty_int, .is (.agg ((insD A Y x C 0).map iC).toArray)⟩]) (by unfold insD; rw [hx]; simp) ?_
      repeat refine J.seq ?_
      refine J.plain ?_
      refine JO.t (ob_move rfl) rfl ?_
      refine JO.t (ob_assign rfl) rfl ?_
      refine JO.nil ?_
      repeat (first | refine JX.next ?_ | refine JX.normal_block ?_)
      refine J.sel [0, 10, 13] (.cons rfl (.cons rfl (.cons rfl .nil))) ?_
      repeat refine J.seq ?_
      refine J.block ?_
      repeat refine J.seq ?_
      refine J.loopG (α := Nat) (fun y => [(0, .is (.slice (some ⟨db, 0, none⟩) sl sl)), (10, .is (.int .i64 ((A.length + X.length + s : Nat)))), (13, .is (.int .i64 ((A.length + y : Nat))))]) (fun y => [⟨db, ty_int, .is (.agg ((insD A Y x C y).map iC).toArray)⟩]) (fun y => fun _ => True) (fun y => y ≤ s) (fun y => s - y) 0 [0, 10, 13] (.cons rfl (.cons rfl (.cons rfl .nil))) rfl (fun _ => trivial) (Nat.zero_le _) fun p hp => ?_
      try dsimp only
      try dsimp only at hp
      repeat refine J.seq ?_
      refine J.plain ?_
      refine JO.t (ob_move rfl) rfl ?_
      refine JO.t (ob_move rfl) rfl ?_
      refine JO.t (ob_subc (cc := ((A.length + s : Nat) : Int)) rfl rfl (by omega) (by omega) (by omega)) rfl ?_
      refine JO.t (ob_lss rfl rfl) rfl ?_
      refine JO.nil ?_
      repeat (first | refine JX.next ?_ | refine JX.normal_block ?_)
      refine J.sel [0, 10, 13, 58] (.cons rfl (.cons rfl (.cons rfl (.cons rfl .nil)))) ?_
      repeat refine J.seq ?_
      refine J.cond rfl (fun ht58 => ?_) (fun ht58 => ?_)
      ·
        try simp only [decide_eq_true_eq, decide_eq_false_iff_not] at ht58
        refine J.skip ?_
        repeat (first | refine JX.next ?_ | refine JX.normal_block ?_)
        repeat refine J.seq ?_
        refine J.block ?_
        have hlen := insD_len (A := A) (S := Y) (R := C) (x := x) (p := p) (by omega)
        repeat refine J.seq ?_
        refine J.regFl 15 [⟨2, 63, [0]⟩, ⟨3, 64, [13]⟩, ⟨4, 65, [64]⟩] [0, 13] (sgv [(0, .slice (some ⟨db, 0, none⟩) sl sl), (13, .int .i64 ((A.length + p : Nat))), (63, .slice (some ⟨db, 0, none⟩) sl sl), (64, .int .i64 ((A.length + p : Nat))), (65, .int .i64 ((A.length + p + 1 : Nat)))]) hmx (by kernel_rfl) rfl rfl rfl (fun _ _ h => by cases h) (by simp [Op.operands]) (by kernel_rfl) ⟨rfl, rfl, trivial⟩ ⟨fl_mv (s := 0) rfl rfl (by simp) rfl, fl_mv (s := 13) rfl rfl (by simp) rfl, fl_addc (s := 64) (p := ((A.length + p : Nat) : Int)) (q := 1) (r := ((A.length + p + 1 : Nat) : Int)) rfl rfl (by simp) rfl rfl (by omega) (by omega) (by omega), trivial⟩ ?_
        refine RT.t (ob_move rfl) ?_
        refine RT.t (ob_move rfl) ?_
        refine RT.t (ob_move rfl) ?_
        refine RT.t (ob_move rfl) ?_
        refine RT.t (ob_addc (cc := ((A.length + p + 1 : Nat) : Int)) rfl rfl (by omega) (by omega) (by omega)) ?_
        refine RT.t (ob_move rfl) ?_
        refine RT.t (ob_move rfl) ?_
        refine RT.t (ob_addc (cc := ((A.length + p + 1 : Nat) : Int)) rfl rfl (by omega) (by omega) (by omega)) ?_
        refine RT.t (ob_indexAddr el_sl_int rfl rfl rfl (by omega) (by omega)) ?_
        refine RT.t (ob_ld1 sz_int rfl (nth_int (l := insD A Y x C p) (i := A.length + p + 1) (by rw [hlen]; omega) (by omega))) ?_
        refine RT.t (ob_move rfl) ?_
        refine RT.t (ob_move rfl) ?_
        refine RT.t (ob_indexAddr el_sl_int rfl rfl rfl (by omega) (by omega)) ?_
        refine RT.t (ob_ld1 sz_int rfl (nth_int (l := insD A Y x C p) (i := A.length + p) (by rw [hlen]; omega) (by omega))) ?_
        refine RT.t (ob_indexAddr el_sl_int rfl rfl rfl (by omega) (by omega)) ?_
        refine RT.nil ?_
        refine FinS.tailF (L' := [⟨db, ty_int, .is (.agg (((insD A Y x C p).set (A.length + p) ((insD A Y x C p).getD (A.length + p + 1) 0)).map iC).toArray)⟩]) ?_ ?_ ?_
        rotate_left
        · exact obm_storeF1 (cs := (insD A Y x C p).map iC) (cs' := ((insD A Y x C p).set (A.length + p) ((insD A Y x C p).getD (A.length + p + 1) 0)).map iC) rfl rfl rfl rfl (by repeat (first | exact .here | apply Upd.there)) (by rw [show 0 + Int.toNat ((A.length + p : Nat) : Int) * 1 = A.length + p by omega]; exact splice_set iC _ _ _ (by first | (rw [hlen]; omega) | (rw [List.length_set, hlen]; omega))) (Nat.ble_eq_true_of_le (by rw [List.length_map, hlen]; omega)) ss_int
        rotate_left
        · rfl
        refine JO.t (ob_indexAddr el_sl_int rfl rfl rfl (by omega) (by omega)) rfl ?_
        refine JO.m (obm_storeF1 (cs := ((insD A Y x C p).set (A.length + p) ((insD A Y x C p).getD (A.length + p + 1) 0)).map iC) (cs' := (((insD A Y x C p).set (A.length + p) ((insD A Y x C p).getD (A.length + p + 1) 0)).set (A.length + p + 1) ((insD A Y x C p).getD (A.length + p) 0)).map iC) rfl rfl rfl rfl (by repeat (first | exact .here | apply Upd.there)) (by rw [show 0 + Int.toNat ((A.length + p + 1 : Nat) : Int) * 1 = A.length + p + 1 by omega]; exact splice_set iC _ _ _ (by first | (rw [hlen]; omega) | (rw [List.length_set, hlen]; omega))) (Nat.ble_eq_true_of_le (by rw [List.length_map, List.length_set, hlen]; omega)) ss_int) (by rfl) ?_
        refine JO.eqL (L' := [⟨db, ty_int, .is (.agg ((insD A Y x C (p + 1)).map iC).toArray)⟩]) (by rw [← insD_up (by omega)]; rfl) ?_
        refine JO.nil ?_
        repeat (first | refine JX.next ?_ | refine JX.normal_block ?_)
        refine J.sel [0, 10, 13] (.cons rfl (.cons rfl (.cons rfl .nil))) ?_
        repeat refine J.seq ?_
        refine J.plain ?_
        refine JO.t (ob_move rfl) rfl ?_
        refine JO.t (ob_addc (cc := ((A.length + (p + 1) : Nat) : Int)) rfl rfl (by omega) (by omega) (by omega)) rfl ?_
        refine JO.t (ob_assign rfl) rfl ?_
        refine JO.nil ?_
        repeat refine JX.normal_block ?_
        refine JX.roundG (x := p) (p + 1) ?_ ?_ [0, 10, 13] ?_ ?_ ?_ ?_
        · exact (by show p + 1 ≤ s; omega)
        · exact (by show s - (p + 1) < s - p; omega)
        · exact (.cons rfl (.cons rfl (.cons rfl .nil)))
        · repeat (first | exact .all | exact .nil | refine Has.own (by repeat (first | exact .here | apply Tl.past | apply Tl.there)) ?_ | refine Has.cons (by repeat (first | exact .here | apply Pk.past | apply Pk.there)) ?_)
        · exact fun G hG => by repeat (first | exact hG | refine List.mem_cons_of_mem _ ?_)
        · exact fun _ _ _ => fun _ _ => trivial
      ·
        try simp only [decide_eq_true_eq, decide_eq_false_iff_not] at ht58
        repeat refine J.seq ?_
        refine J.exit ?_
        repeat (first | refine JX.hit ?_ | refine JX.miss rfl ?_ | refine JX.exit_pass ?_)
        repeat (first | refine JX.next ?_ | refine JX.normal_block ?_)
        repeat refine J.seq ?_
        refine J.ret ?_
        repeat (first | refine JX.ret_pass ?_ | refine JX.ret_block ?_)
        obtain ⟨hs1, hp1⟩ := one_in hw (x := x) (k := s) hsY (fun t h1 h2 => hw.asym _ _ (bY _ (getD_mem h2)) hxn (hlt t h1)) (fun t h1 h2 => hge t (by omega) h2)
        exact JX.retL0 (Lr := []) (L1 := fun Z => [⟨db, ty_int, .is (.agg ((A ++ Z ++ C).map iC).toArray)⟩]) rfl (Y.take s ++ x :: Y.drop s) ⟨by rw [hx]; exact hp1, hs1⟩ (List.Perm.of_eq (by rw [List.append_nil, show p = s by omega]; unfold insD; simp)) rfl hb0 rfl
  ·
    try simp only [decide_eq_true_eq, decide_eq_false_iff_not] at ht28
    refine J.skip ?_
    repeat (first | refine JX.next ?_ | refine JX.normal_block ?_)
    repeat refine J.seq ?_
    refine J.plain ?_
    refine JO.t (ob_move rfl) rfl ?_
    refine JO.t (ob_move rfl) rfl ?_
    refine JO.t (ob_subv (v := ((Y.length : Nat) : Int)) rfl rfl (by rw [wrap64_eq (by omega) (by omega)]; omega)) rfl ?_
    refine JO.t (ob_eql rfl rfl) rfl ?_
    refine JO.nil ?_
    repeat (first | refine JX.next ?_ | refine JX.normal_block ?_)
    refine J.sel [0, 1, 2, 3, 4, 80] (.cons rfl (.cons rfl (.cons rfl (.cons rfl (.cons rfl (.cons rfl .nil)))))) ?_
    repeat refine J.seq ?_
    refine J.cond rfl (fun ht80 => ?_) (fun ht80 => ?_)
    ·
      try simp only [decide_eq_true_eq, decide_eq_false_iff_not] at ht80
      have hY1 : Y.length = 1 := by simp at ht80; omega
      obtain ⟨w, hw0⟩ : ∃ w, Y = [w] := List.length_eq_one_iff.1 hY1
      have hxn : w < n := bY w (by rw [hw0]; simp)
      have hw1 : (A ++ X ++ Y ++ C).getD (A.length + X.length) 0 = w := by
        have h := getY A X Y C (i := 0) (by omega)
        rw [Nat.add_zero] at h
        rw [h, hw0]
        rfl
      repeat refine J.seq ?_
      refine J.plain ?_
      refine JO.t (ob_move rfl) rfl ?_
      refine JO.t (ob_assign rfl) rfl ?_
      refine JO.nil ?_
      repeat (first | refine JX.next ?_ | refine JX.normal_block ?_)
      refine J.sel [0, 2, 4, 14] (.cons rfl (.cons rfl (.cons rfl (.cons rfl .nil)))) ?_
      repeat refine J.seq ?_
      refine J.plain ?_
      refine JO.t (ob_move rfl) rfl ?_
      refine JO.t (ob_assign rfl) rfl ?_
      refine JO.nil ?_
      repeat (first | refine JX.next ?_ | refine JX.normal_block ?_)
      refine J.sel [0, 2, 4, 14, 15] (.cons rfl (.cons rfl (.cons rfl (.cons rfl (.cons rfl .nil))))) ?_
      repeat refine J.seq ?_
      refine J.block ?_
      repeat refine J.seq ?_
      refine J.loopF (α := Nat × Nat) (fun y => [(0, .is (.slice (some ⟨db, 0, none⟩) sl sl)), (2, .is (.int .i64 ((A.length + X.length : Nat)))), (4, .is fv), (14, .is (.int .i64 ((A.length + y.1 : Nat)))), (15, .is (.int .i64 ((A.length + y.2 : Nat))))]) (fun y => y.1 ≤ y.2 ∧ y.2 ≤ X.length ∧ (∀ t, t < y.1 → ltF cf w (X.getD t 0) = false) ∧ ∀ t, y.2 ≤ t → t < X.length → ltF cf w (X.getD t 0) = true) (fun y => y.2 - y.1) (0, X.length) [0, 2, 4, 14, 15] (.cons rfl (.cons rfl (.cons rfl (.cons rfl (.cons rfl .nil))))) ⟨Nat.zero_le _, Nat.le_refl _, fun t ht => absurd ht (Nat.not_lt_zero _), fun t h1 h2 => by omega⟩ fun ⟨s, r⟩ ⟨hsr, hr, hlt, hge⟩ => ?_
      repeat refine J.seq ?_
      refine J.plain ?_
      refine JO.t (ob_move rfl) rfl ?_
      refine JO.t (ob_move rfl) rfl ?_
      refine JO.t (ob_lss rfl rfl) rfl ?_
      refine JO.nil ?_
      repeat (first | refine JX.next ?_ | refine JX.normal_block ?_)
      refine J.sel [0, 2, 4, 14, 15, 85] (.cons rfl (.cons rfl (.cons rfl (.cons rfl (.cons rfl (.cons rfl .nil)))))) ?_
      repeat refine J.seq ?_
      refine J.cond rfl (fun ht85 => ?_) (fun ht85 => ?_)
      ·
        try simp only [decide_eq_true_eq, decide_eq_false_iff_not] at ht85
        refine J.skip ?_
        repeat (first | refine JX.next ?_ | refine JX.normal_block ?_)
        repeat refine J.seq ?_
        refine J.block ?_
        repeat refine J.seq ?_
        refine J.plain ?_
        refine JO.t (ob_move rfl) rfl ?_
        refine JO.t (ob_move rfl) rfl ?_
        refine JO.t (ob_addv (v := ((A.length + s + (A.length + r) : Nat) : Int)) rfl rfl (by rw [wrap64_eq (by omega) (by omega)]; omega)) rfl ?_
        refine JO.t (ob_convIIe (cc := ((A.length + s + (A.length + r) : Nat) : Int)) ⟨_, un_int⟩ un_uint rfl (by rw [wrap_u64]; omega)) rfl ?_
        refine JO.t (ob_shrv (v := (((A.length + s + (A.length + r)) / 2 : Nat) : Int)) rfl rfl (by omega) (by show Int.fdiv _ 2 = _; rw [Int.fdiv_eq_ediv_of_nonneg _ (by omega)]; omega)) rfl ?_
        refine JO.t (ob_convIIe (cc := (((A.length + s + (A.length + r)) / 2 : Nat) : Int)) ⟨_, un_uint⟩ un_int rfl (wrap64_eq (by omega) (by omega))) rfl ?_
        refine JO.t (ob_assign rfl) rfl ?_
        refine JO.nil ?_
        repeat (first | refine JX.next ?_ | refine JX.normal_block ?_)
        refine J.sel [0, 2, 4, 14, 15, 16] (.cons rfl (.cons rfl (.cons rfl (.cons rfl (.cons rfl (.cons rfl .nil)))))) ?_
        obtain ⟨q, hq⟩ : ∃ q, (A.length + s + (A.length + r)) / 2 = A.length + q := ⟨(A.length + s + (A.length + r)) / 2 - A.length, by omega⟩
        rw [hq]
        have hqy := getX A X Y C (i := q) (by omega)
        repeat refine J.seq ?_
        refine J.reg0 hmx (by kernel_rfl) (by kernel_rfl) ?_
        refine RT.t (ob_move rfl) ?_
        refine RT.t (ob_move rfl) ?_
        refine RT.t (ob_move rfl) ?_
        refine RT.t (ob_indexAddr el_sl_int rfl rfl rfl (by omega) (by omega)) ?_
        refine RT.t (ob_ld1 sz_int rfl (nth_int (l := A ++ X ++ Y ++ C) (i := A.length + X.length) (by rw [hDl]; omega) (by omega))) ?_
        refine RT.t (ob_move rfl) ?_
        refine RT.t (ob_move rfl) ?_
        refine RT.t (ob_indexAddr el_sl_int rfl rfl rfl (by omega) (by omega)) ?_
        refine RT.t (ob_ld1 sz_int rfl (nth_int (l := A ++ X ++ Y ++ C) (i := A.length + q) (by rw [hDl]; omega) (by omega))) ?_
        refine RT.t (ob_call2 rfl hF (by simp) rfl rfl (hg _ (by omega)) (hg _ (by omega))) ?_
        refine RT.t (ob_lss rfl rfl) ?_
        refine RT.t (ob_not rfl) ?_
        refine RT.nil ?_
        refine FinS.nil0 ?_
        repeat (first | refine JX.next ?_ | refine JX.normal_block ?_)
        refine J.sel [0, 2, 4, 14, 15, 16, 103] (.cons rfl (.cons rfl (.cons rfl (.cons rfl (.cons rfl (.cons rfl (.cons rfl .nil))))))) ?_
        repeat refine J.seq ?_
        refine J.cond rfl (fun ht103 => ?_) (fun ht103 => ?_)
        ·
          try simp only [decide_eq_true_eq, decide_eq_false_iff_not] at ht103
          have hcq : ltF cf w (X.getD q 0) = false := by rw [← hqy, ← hw1]; exact decide_eq_false (by simpa using ht103)
          repeat refine J.seq ?_
          refine J.plain ?_
          refine JO.t (ob_move rfl) rfl ?_
          refine JO.t (ob_addc (cc := ((A.length + (q + 1) : Nat) : Int)) rfl rfl (by omega) (by omega) (by omega)) rfl ?_
          refine JO.t (ob_assign rfl) rfl ?_
          refine JO.nil ?_
          repeat refine JX.normal_block ?_
          refine JX.roundS (q + 1, r) ?_ ?_ [0, 2, 4, 14, 15] ?_ ?_ ?_
          · exact ⟨by show q + 1 ≤ r; omega, hr, fun t ht => by
    have ht : t < q + 1 := ht
    exact hw.ntr _ _ _ hxn (bX _ (getD_mem (by omega))) (bX _ (getD_mem (by omega))) hcq (srt_get hw bX hsX (show t ≤ q by omega) (by omega)), hge⟩
          · exact (by show r - (q + 1) < r - s; omega)
          · exact (.cons rfl (.cons rfl (.cons rfl (.cons rfl (.cons rfl .nil)))))
          · repeat (first | exact .slnil | exact List.Sublist.refl _ | apply List.Sublist.cons_cons | apply List.Sublist.cons)
          · repeat (first | exact .slnil | exact List.Sublist.refl _ | apply List.Sublist.cons_cons | apply List.Sublist.cons)
        ·
          try simp only [decide_eq_true_eq, decide_eq_false_iff_not] at ht103
          have hcq : ltF cf w (X.getD q 0) = true := by rw [← hqy, ← hw1]; exact decide_eq_true (by simpa using ht103)
          repeat refine J.seq ?_
          refine J.plain ?_
          refine JO.t (ob_move rfl) rfl ?_
          refine JO.t (ob_assign rfl) rfl ?_
          refine JO.nil ?_
          repeat refine JX.normal_block ?_
          refine JX.roundS (s, q) ?_ ?_ [0, 2, 4, 14, 15] ?_ ?_ ?_
          · exact ⟨by show s ≤ q; omega, by show q ≤ _; omega, hlt, fun t h1 h2 => by
    have h1 : q ≤ t := h1
    cases hc : ltF cf w (X.getD t 0) with
    | true => rfl
    | false =>
      have := hw.ntr _ _ _ hxn (bX _ (getD_mem h2)) (bX _ (getD_mem (by omega))) hc (srt_get hw bX hsX h1 h2)
      rw [hcq] at this; cases this⟩
          · exact (by show q - s < r - s; omega)
          · exact (.cons rfl (.cons rfl (.cons rfl (.cons rfl (.cons rfl .nil)))))
          · repeat (first | exact .slnil | exact List.Sublist.refl _ | apply List.Sublist.cons_cons | apply List.Sublist.cons)
          · repeat (first | exact .slnil | exact List.Sublist.refl _ | apply List.Sublist.cons_cons | apply List.Sublist.cons)
      ·
        try simp only [decide_eq_true_eq, decide_eq_false_iff_not] at ht85
        repeat refine J.seq ?_
        refine J.exit ?_
        repeat (first | refine JX.hit ?_ | refine JX.miss rfl ?_ | refine JX.exit_pass ?_)
        repeat (first | refine JX.next ?_ | refine JX.normal_block ?_)
        refine J.eqL (L' := [⟨db, ty_int, .is (.agg ((insD A X w C X.length).map iC).toArray)⟩]) (by unfold insD; rw [hw0]; simp) ?_
        repeat refine J.seq ?_
        refine J.plain ?_
        refine JO.t (ob_move rfl) rfl ?_
        refine JO.t (ob_assign rfl) rfl ?_
        refine JO.nil ?_
        repeat (first | refine JX.next ?_ | refine JX.normal_block ?_)
        refine J.sel [0, 14, 17] (.cons rfl (.cons rfl (.cons rfl .nil))) ?_
        repeat refine J.seq ?_
        refine J.block ?_
        repeat refine J.seq ?_
        refine J.loopG (α := Nat) (fun y => [(0, .is (.slice (some ⟨db, 0, none⟩) sl sl)), (14, .is (.int .i64 ((A.length + s : Nat)))), (17, .is (.int .i64 ((A.length + y : Nat))))]) (fun y => [⟨db, ty_int, .is (.agg ((insD A X w C y).map iC).toArray)⟩]) (fun y => fun _ => True) (fun y => y ≤ X.length ∧ s ≤ y) (fun y => y) X.length [0, 14, 17] (.cons rfl (.cons rfl (.cons rfl .nil))) rfl (fun _ => trivial) ⟨Nat.le_refl _, by omega⟩ fun p ⟨hp, hps⟩ => ?_
        try dsimp only
        try dsimp only at hp
        try dsimp only at hps
        repeat refine J.seq ?_
        refine J.plain ?_
        refine JO.t (ob_move rfl) rfl ?_
        refine JO.t (ob_move rfl) rfl ?_
        refine JO.t (ob_gtr rfl rfl) rfl ?_
        refine JO.nil ?_
        repeat (first | refine JX.next ?_ | refine JX.normal_block ?_)
        refine J.sel [0, 14, 17, 110] (.cons rfl (.cons rfl (.cons rfl (.cons rfl .nil)))) ?_
        repeat refine J.seq ?_
        refine J.cond rfl (fun ht110 => ?_) (fun ht110 => ?_)
        ·
          try simp only [decide_eq_true_eq, decide_eq_false_iff_not] at ht110
          refine J.skip ?_
          repeat (first | refine JX.next ?_ | refine JX.normal_block ?_)
          repeat refine J.seq ?_
          refine J.block ?_
          have hlen := insD_len (A := A) (S := X) (R := C) (x := w) (p := p) hp
          repeat refine J.seq ?_
          refine J.regFl 15 [⟨2, 115, [0]⟩, ⟨3, 116, [17]⟩, ⟨4, 117, [116]⟩] [0, 17] (sgv [(0, .slice (some ⟨db, 0, none⟩) sl sl), (17, .int .i64 ((A.length + p : Nat))), (115, .slice (some ⟨db, 0, none⟩) sl sl), (116, .int .i64 ((A.length + p : Nat))), (117, .int .i64 ((A.length + p - 1 : Nat)))]) hmx (by kernel_rfl) rfl rfl rfl (fun _ _ h => by cases h) (by simp [Op.operands]) (by kernel_rfl) ⟨rfl, rfl, trivial⟩ ⟨fl_mv (s := 0) rfl rfl (by simp) rfl, fl_mv (s := 17) rfl rfl (by simp) rfl, fl_subc (s := 116) (p := ((A.length + p : Nat) : Int)) (q := 1) (r := ((A.length + p - 1 : Nat) : Int)) rfl rfl (by simp) rfl rfl (by omega) (by omega) (by omega), trivial⟩ ?_
          refine RT.t (ob_move rfl) ?_
          refine RT.t (ob_move rfl) ?_
          refine RT.t (ob_move rfl) ?_
          refine RT.t (ob_move rfl) ?_
          refine RT.t (ob_subc (cc := ((A.length + p - 1 : Nat) : Int)) rfl rfl (by omega) (by omega) (by omega)) ?_
          refine RT.t (ob_move rfl) ?_
          refine RT.t (ob_move rfl) ?_
          refine RT.t (ob_subc (cc := ((A.length + p - 1 : Nat) : Int)) rfl rfl (by omega) (by omega) (by omega)) ?_
          refine RT.t (ob_indexAddr el_sl_int rfl rfl rfl (by omega) (by omega)) ?_
          refine RT.t (ob_ld1 sz_int rfl (nth_int (l := insD A X w C p) (i := A.length + p - 1) (by rw [hlen]; omega) (by omega))) ?_
          refine RT.t (ob_move rfl) ?_
          refine RT.t (ob_move rfl) ?_
          refine RT.t (ob_indexAddr el_sl_int rfl rfl rfl (by omega) (by omega)) ?_
          refine RT.t (ob_ld1 sz_int rfl (nth_int (l := insD A X w C p) (i := A.length + p) (by rw [hlen]; omega) (by omega))) ?_
          refine RT.t (ob_indexAddr el_sl_int rfl rfl rfl (by omega) (by omega)) ?_
          refine RT.nil ?_
          refine FinS.tailF (L' := [⟨db, ty_int, .is (.agg (((insD A X w C p).set (A.length + p) ((insD A X w C p).getD (A.length + p - 1) 0)).map iC).toArray)⟩]) ?_ ?_ ?_
          rotate_left
          · exact obm_storeF1 (cs := (insD A X w C p).map iC) (cs' := ((insD A X w C p).set (A.length + p) ((insD A X w C p).getD (A.length + p - 1) 0)).map iC) rfl rfl rfl rfl (by repeat (first | exact .here | apply Upd.there)) (by rw [show 0 + Int.toNat ((A.length + p : Nat) : Int) * 1 = A.length + p by omega]; exact splice_set iC _ _ _ (by first | (rw [hlen]; omega) | (rw [List.length_set, hlen]; omega))) (Nat.ble_eq_true_of_le (by rw [List.length_map, hlen]; omega)) ss_int
          rotate_left
          · rfl
          refine JO.t (ob_indexAddr el_sl_int rfl rfl rfl (by omega) (by omega)) rfl ?_
          refine JO.m (obm_storeF1 (cs := ((insD A X w C p).set (A.length + p) ((insD A X w C p).getD (A.length + p - 1) 0)).map iC) (cs' := (((insD A X w C p).set (A.length + p) ((insD A X w C p).getD (A.length + p - 1) 0)).set (A.length + p - 1) ((insD A X w C p).getD (A.length + p) 0)).map iC) rfl rfl rfl rfl (by repeat (first | exact .here | apply Upd.there)) (by rw [show 0 + Int.toNat ((A.length + p - 1 : Nat) : Int) * 1 = A.length + p - 1 by omega]; exact splice_set iC _ _ _ (by first | (rw [hlen]; omega) | (rw [List.length_set, hlen]; omega))) (Nat.ble_eq_true_of_le (by rw [List.length_map, List.length_set, hlen]; omega)) ss_int) (by rfl) ?_
          refine JO.eqL (L' := [⟨db, ty_int, .is (.agg ((insD A X w C (p - 1)).map iC).toArray)⟩]) (by rw [← insD_dn (by omega) hp]; rfl) ?_
          refine JO.nil ?_
          repeat (first | refine JX.next ?_ | refine JX.normal_block ?_)
          refine J.sel [0, 14, 17] (.cons rfl (.cons rfl (.cons rfl .nil))) ?_
          repeat refine J.seq ?_
          refine J.plain ?_
          refine JO.t (ob_move rfl) rfl ?_
          refine JO.t (ob_subc (cc := ((A.length + (p - 1) : Nat) : Int)) rfl rfl (by omega) (by omega) (by omega)) rfl ?_
          refine JO.t (ob_assign rfl) rfl ?_
          refine JO.nil ?_
          repeat refine JX.normal_block ?_
          refine JX.roundG (x := p) (p - 1) ?_ ?_ [0, 14, 17] ?_ ?_ ?_ ?_
          · exact ⟨by show p - 1 ≤ X.length; omega, by show s ≤ p - 1; omega⟩
          · exact (by show p - 1 < p; omega)
          · exact (.cons rfl (.cons rfl (.cons rfl .nil)))
          · repeat (first | exact .all | exact .nil | refine Has.own (by repeat (first | exact .here | apply Tl.past | apply Tl.there)) ?_ | refine Has.cons (by repeat (first | exact .here | apply Pk.past | apply Pk.there)) ?_)
          · exact fun G hG => by repeat (first | exact hG | refine List.mem_cons_of_mem _ ?_)
          · exact fun _ _ _ => fun _ _ => trivial
        ·
          try simp only [decide_eq_true_eq, decide_eq_false_iff_not] at ht110
          repeat refine J.seq ?_
          refine J.exit ?_
          repeat (first | refine JX.hit ?_ | refine JX.miss rfl ?_ | refine JX.exit_pass ?_)
          repeat (first | refine JX.next ?_ | refine JX.normal_block ?_)
          repeat refine J.seq ?_
          refine J.ret ?_
          repeat (first | refine JX.ret_pass ?_ | refine JX.ret_block ?_)
          obtain ⟨hs1, hp1⟩ := one_in hw (x := w) (k := s) hsX (fun t h1 h2 => hlt t h1) (fun t h1 h2 => hw.asym _ _ hxn (bX _ (getD_mem h2)) (hge t (by omega) h2))
          exact JX.retL0 (Lr := []) (L1 := fun Z => [⟨db, ty_int, .is (.agg ((A ++ Z ++ C).map iC).toArray)⟩]) rfl (X.take s ++ w :: X.drop s) ⟨by rw [hw0]; exact hp1.trans (List.perm_append_comm (l₁ := [w])), hs1⟩ (List.Perm.of_eq (by rw [List.append_nil, show p = s by omega]; unfold insD; simp)) rfl hb0 rfl
    ·
      try simp only [decide_eq_true_eq, decide_eq_false_iff_not] at ht80
      refine J.skip ?_
      repeat (first | refine JX.next ?_ | refine JX.normal_block ?_)
      repeat refine J.seq ?_
      refine J.plain ?_
      refine JO.t (ob_move rfl) rfl ?_
      refine JO.t (ob_move rfl) rfl ?_
      refine JO.t (ob_addv (v := ((A.length + (A.length + X.length + Y.length) : Nat) : Int)) rfl rfl (by rw [wrap64_eq (by omega) (by omega)]; omega)) rfl ?_
      refine JO.t (ob_convIIe (cc := ((A.length + (A.length + X.length + Y.length) : Nat) : Int)) ⟨_, un_int⟩ un_uint rfl (by rw [wrap_u64]; omega)) rfl ?_
      refine JO.t (ob_shrv (v := (((A.length + (A.length + X.length + Y.length)) / 2 : Nat) : Int)) rfl rfl (by omega) (by show Int.fdiv _ 2 = _; rw [Int.fdiv_eq_ediv_of_nonneg _ (by omega)]; omega)) rfl ?_
      refine JO.t (ob_convIIe (cc := (((A.length + (A.length + X.length + Y.length)) / 2 : Nat) : Int)) ⟨_, un_uint⟩ un_int rfl (wrap64_eq (by omega) (by omega))) rfl ?_
      refine JO.t (ob_assign rfl) rfl ?_
      refine JO.nil ?_
      repeat (first | refine JX.next ?_ | refine JX.normal_block ?_)
      refine J.sel [0, 1, 2, 3, 4, 18] (.cons rfl (.cons rfl (.cons rfl (.cons rfl (.cons rfl (.cons rfl .nil)))))) ?_
      obtain ⟨mid, hmid⟩ : ∃ mid, mid = (A.length + (A.length + X.length + Y.length)) / 2 := ⟨_, rfl⟩
      rw [← hmid]
      repeat refine J.seq ?_
      refine J.plain ?_
      refine JO.t (ob_move rfl) rfl ?_
      refine JO.t (ob_move rfl) rfl ?_
      refine JO.t (ob_addv (v := ((mid + (A.length + X.length) : Nat) : Int)) rfl rfl (by rw [wrap64_eq (by omega) (by omega)]; omega)) rfl ?_
      refine JO.t (ob_assign rfl) rfl ?_
      refine JO.nil ?_
      repeat (first | refine JX.next ?_ | refine JX.normal_block ?_)
      refine J.sel [0, 1, 2, 3, 4, 18, 19] (.cons rfl (.cons rfl (.cons rfl (.cons rfl (.cons rfl (.cons rfl (.cons rfl .nil))))))) ?_
      repeat refine J.seq ?_
      refine J.plain ?_
      refine JO.t (ob_assign rfl) rfl ?_
      refine JO.t (ob_assign rfl) rfl ?_
      refine JO.nil ?_
      repeat (first | refine JX.next ?_ | refine JX.normal_block ?_)
      refine J.sel [0, 1, 2, 3, 4, 18, 19] (.cons rfl (.cons rfl (.cons rfl (.cons rfl (.cons rfl (.cons rfl (.cons rfl .nil))))))) ?_
      repeat refine J.seq ?_
      refine J.plain ?_
      refine JO.t (ob_move rfl) rfl ?_
      refine JO.t (ob_move rfl) rfl ?_
      refine JO.t (ob_gtr rfl rfl) rfl ?_
      refine JO.nil ?_
      repeat (first | refine JX.next ?_ | refine JX.normal_block ?_)
      refine J.sel [0, 1, 2, 3, 4, 18, 19, 140] (.cons rfl (.cons rfl (.cons rfl (.cons rfl (.cons rfl (.cons rfl (.cons rfl (.cons rfl .nil)))))))) ?_
      repeat refine J.seq ?_
      refine J.cutZN (fun z : Nat × Nat => [(0, .is (.slice (some ⟨db, 0, none⟩) sl sl)), (1, .is (.int .i64 ((A.length : Nat)))), (2, .is (.int .i64 ((A.length + X.length : Nat)))), (3, .is (.int .i64 ((A.length + X.length + Y.length : Nat)))), (4, .is fv), (18, .is (.int .i64 ((mid : Nat)))), (19, .is (.int .i64 ((mid + (A.length + X.length) : Nat)))), (20, .is (.int .i64 ((z.1 : Nat)))), (21, .is (.int .i64 ((z.2 : Nat))))]) (fun z : Nat × Nat => [⟨db, ty_int, .is (.agg ((A ++ X ++ Y ++ C).map iC).toArray)⟩]) (fun z : Nat × Nat => (A.length + X.length > mid ∧ z.1 = mid + (A.length + X.length) - (A.length + X.length + Y.length) ∧ z.2 = mid) ∨ (A.length + X.length ≤ mid ∧ z.1 = A.length ∧ z.2 = A.length + X.length)) ?_ ?_
      · refine J.cond rfl (fun ht140 => ?_) (fun ht140 => ?_)
        ·
          try simp only [decide_eq_true_eq, decide_eq_false_iff_not] at ht140
          repeat refine J.seq ?_
          refine J.plain ?_
          refine JO.t (ob_move rfl) rfl ?_
          refine JO.t (ob_move rfl) rfl ?_
          refine JO.t (ob_subv (v := ((mid + (A.length + X.length) - (A.length + X.length + Y.length) : Nat) : Int)) rfl rfl (by rw [wrap64_eq (by omega) (by omega)]; omega)) rfl ?_
          refine JO.t (ob_assign rfl) rfl ?_
          refine JO.nil ?_
          repeat (first | refine JX.next ?_ | refine JX.normal_block ?_)
          refine J.sel [0, 1, 2, 3, 4, 18, 19, 20] (.cons rfl (.cons rfl (.cons rfl (.cons rfl (.cons rfl (.cons rfl (.cons rfl (.cons rfl .nil)))))))) ?_
          repeat refine J.seq ?_
          refine J.plain ?_
          refine JO.t (ob_move rfl) rfl ?_
          refine JO.t (ob_assign rfl) rfl ?_
          refine JO.nil ?_
          refine JX.midZ ((mid + (A.length + X.length) - (A.length + X.length + Y.length), mid)) ?_ [0, 1, 2, 3, 4, 18, 19, 20, 21] ?_ ?_ ?_
          · exact .inl ⟨by omega, rfl, rfl⟩
          · exact (.cons rfl (.cons rfl (.cons rfl (.cons rfl (.cons rfl (.cons rfl (.cons rfl (.cons rfl (.cons rfl .nil)))))))))
          · repeat (first | exact .all | exact .nil | refine Has.own (by repeat (first | exact .here | apply Tl.past | apply Tl.there)) ?_ | refine Has.cons (by repeat (first | exact .here | apply Pk.past | apply Pk.there)) ?_)
          · exact fun G hG => by repeat (first | exact hG | refine List.mem_cons_of_mem _ ?_)
        ·
          try simp only [decide_eq_true_eq, decide_eq_false_iff_not] at ht140
          repeat refine J.seq ?_
          refine J.plain ?_
          refine JO.t (ob_move rfl) rfl ?_
          refine JO.t (ob_assign rfl) rfl ?_
          refine JO.nil ?_
          repeat (first | refine JX.next ?_ | refine JX.normal_block ?_)
          refine J.sel [0, 1, 2, 3, 4, 18, 19, 20] (.cons rfl (.cons rfl (.cons rfl (.cons rfl (.cons rfl (.cons rfl (.cons rfl (.cons rfl .nil)))))))) ?_
          repeat refine J.seq ?_
          refine J.plain ?_
          refine JO.t (ob_move rfl) rfl ?_
          refine JO.t (ob_assign rfl) rfl ?_
          refine JO.nil ?_
          refine JX.midZ ((A.length, A.length + X.length)) ?_ [0, 1, 2, 3, 4, 18, 19, 20, 21] ?_ ?_ ?_
          · exact .inr ⟨by omega, rfl, rfl⟩
          · exact (.cons rfl (.cons rfl (.cons rfl (.cons rfl (.cons rfl (.cons rfl (.cons rfl (.cons rfl (.cons rfl .nil)))))))))
          · repeat (first | exact .all | exact .nil | refine Has.own (by repeat (first | exact .here | apply Tl.past | apply Tl.there)) ?_ | refine Has.cons (by repeat (first | exact .here | apply Pk.past | apply Pk.there)) ?_)
          · exact fun G hG => by repeat (first | exact hG | refine List.mem_cons_of_mem _ ?_)
      · intro z hz
        try dsimp only
        repeat refine J.seq ?_
        refine J.plain ?_
        refine JO.t (ob_move rfl) rfl ?_
        refine JO.t (ob_subc (cc := ((mid + (A.length + X.length) - 1 : Nat) : Int)) rfl rfl (by omega) (by omega) (by omega)) rfl ?_
        refine JO.t (ob_assign rfl) rfl ?_
        refine JO.nil ?_
        repeat (first | refine JX.next ?_ | refine JX.normal_block ?_)
        refine J.sel [0, 1, 2, 3, 4, 18, 19, 20, 21, 22] (.cons rfl (.cons rfl (.cons rfl (.cons rfl (.cons rfl (.cons rfl (.cons rfl (.cons rfl (.cons rfl (.cons rfl .nil)))))))))) ?_
        repeat refine J.seq ?_
        refine J.block ?_
        repeat refine J.seq ?_
        refine J.loopF (α := Nat × Nat) (fun y => [(0, .is (.slice (some ⟨db, 0, none⟩) sl sl)), (1, .is (.int .i64 ((A.length : Nat)))), (2, .is (.int .i64 ((A.length + X.length : Nat)))), (3, .is (.int .i64 ((A.length + X.length + Y.length : Nat)))), (4, .is fv), (18, .is (.int .i64 ((mid : Nat)))), (19, .is (.int .i64 ((mid + (A.length + X.length) : Nat)))), (20, .is (.int .i64 ((y.1 : Nat)))), (21, .is (.int .i64 ((y.2 : Nat)))), (22, .is (.int .i64 ((mid + (A.length + X.length) - 1 : Nat))))]) (fun y => (z.1 ≤ y.1 ∧ y.1 ≤ y.2 ∧ y.2 ≤ z.2) ∧ (∀ i, z.1 ≤ i → i < y.1 → ltF cf ((A ++ X ++ Y ++ C).getD (mid + (A.length + X.length) - 1 - i) 0) ((A ++ X ++ Y ++ C).getD i 0) = false) ∧ ∀ i, y.2 ≤ i → i < z.2 → ltF cf ((A ++ X ++ Y ++ C).getD (mid + (A.length + X.length) - 1 - i) 0) ((A ++ X ++ Y ++ C).getD i 0) = true) (fun y => y.2 - y.1) z [0, 1, 2, 3, 4, 18, 19, 20, 21, 22] (.cons rfl (.cons rfl (.cons rfl (.cons rfl (.cons rfl (.cons rfl (.cons rfl (.cons rfl (.cons rfl (.cons rfl .nil)))))))))) ⟨⟨Nat.le_refl _, by omega, Nat.le_refl _⟩, fun i h1 h2 => by omega, fun i h1 h2 => by omega⟩ fun ⟨s, r⟩ ⟨⟨hzs, hsr, hrz⟩, hf, ht⟩ => ?_
        repeat refine J.seq ?_
        refine J.plain ?_
        refine JO.t (ob_move rfl) rfl ?_
        refine JO.t (ob_move rfl) rfl ?_
        refine JO.t (ob_lss rfl rfl) rfl ?_
        refine JO.nil ?_
        repeat (first | refine JX.next ?_ | refine JX.normal_block ?_)
        refine J.sel [0, 1, 2, 3, 4, 18, 19, 20, 21, 22, 151] (.cons rfl (.cons rfl (.cons rfl (.cons rfl (.cons rfl (.cons rfl (.cons rfl (.cons rfl (.cons rfl (.cons rfl (.cons rfl .nil))))))))))) ?_
        repeat refine J.seq ?_
        refine J.cond rfl (fun ht151 => ?_) (fun ht151 => ?_)
        ·
          try simp only [decide_eq_true_eq, decide_eq_false_iff_not] at ht151
          refine J.skip ?_
          repeat (first | refine JX.next ?_ | refine JX.normal_block ?_)
          repeat refine J.seq ?_
          refine J.block ?_
          repeat refine J.seq ?_
          refine J.plain ?_
          refine JO.t (ob_move rfl) rfl ?_
          refine JO.t (ob_move rfl) rfl ?_
          refine JO.t (ob_addv (v := ((s + r : Nat) : Int)) rfl rfl (by rw [wrap64_eq (by omega) (by omega)]; omega)) rfl ?_
          refine JO.t (ob_convIIe (cc := ((s + r : Nat) : Int)) ⟨_, un_int⟩ un_uint rfl (by rw [wrap_u64]; omega)) rfl ?_
          refine JO.t (ob_shrv (v := (((s + r) / 2 : Nat) : Int)) rfl rfl (by omega) (by show Int.fdiv _ 2 = _; rw [Int.fdiv_eq_ediv_of_nonneg _ (by omega)]; omega)) rfl ?_
          refine JO.t (ob_convIIe (cc := (((s + r) / 2 : Nat) : Int)) ⟨_, un_uint⟩ un_int rfl (wrap64_eq (by omega) (by omega))) rfl ?_
          refine JO.t (ob_assign rfl) rfl ?_
          refine JO.nil ?_
          repeat (first | refine JX.next ?_ | refine JX.normal_block ?_)
          refine J.sel [0, 1, 2, 3, 4, 18, 19, 20, 21, 22, 23] (.cons rfl (.cons rfl (.cons rfl (.cons rfl (.cons rfl (.cons rfl (.cons rfl (.cons rfl (.cons rfl (.cons rfl (.cons rfl .nil))))))))))) ?_
          obtain ⟨q, hq⟩ : ∃ q, q = (s + r) / 2 := ⟨_, rfl⟩
          rw [← hq]
          repeat refine J.seq ?_
          refine J.reg0 hmx (by kernel_rfl) (by kernel_rfl) ?_
          refine RT.t (ob_move rfl) ?_
          refine RT.t (ob_move rfl) ?_
          refine RT.t (ob_move rfl) ?_
          refine RT.t (ob_move rfl) ?_
          refine RT.t (ob_subv (v := ((mid + (A.length + X.length) - 1 - q : Nat) : Int)) rfl rfl (by rw [wrap64_eq (by omega) (by omega)]; omega)) ?_
          refine RT.t (ob_indexAddr el_sl_int rfl rfl rfl (by omega) (by omega)) ?_
          refine RT.t (ob_ld1 sz_int rfl (nth_int (l := A ++ X ++ Y ++ C) (i := mid + (A.length + X.length) - 1 - q) (by rw [hDl]; omega) (by omega))) ?_
          refine RT.t (ob_move rfl) ?_
          refine RT.t (ob_move rfl) ?_
          refine RT.t (ob_indexAddr el_sl_int rfl rfl rfl (by omega) (by omega)) ?_
          refine RT.t (ob_ld1 sz_int rfl (nth_int (l := A ++ X ++ Y ++ C) (i := q) (by rw [hDl]; omega) (by omega))) ?_
          refine RT.t (ob_call2 rfl hF (by simp) rfl rfl (hg _ (by omega)) (hg _ (by omega))) ?_
          refine RT.t (ob_lss rfl rfl) ?_
          refine RT.t (ob_not rfl) ?_
          refine RT.nil ?_
          refine FinS.nil0 ?_
          repeat (first | refine JX.next ?_ | refine JX.normal_block ?_)
          refine J.sel [0, 1, 2, 3, 4, 18, 19, 20, 21, 22, 23, 171] (.cons rfl (.cons rfl (.cons rfl (.cons rfl (.cons rfl (.cons rfl (.cons rfl (.cons rfl (.cons rfl (.cons rfl (.cons rfl (.cons rfl .nil)))))))))))) ?_
          repeat refine J.seq ?_
          refine J.cond rfl (fun ht171 => ?_) (fun ht171 => ?_)
          ·
            try simp only [decide_eq_true_eq, decide_eq_false_iff_not] at ht171
            have hcq : ltF cf ((A ++ X ++ Y ++ C).getD (mid + (A.length + X.length) - 1 - q) 0) ((A ++ X ++ Y ++ C).getD q 0) = false := decide_eq_false (by simpa using ht171)
            repeat refine J.seq ?_
            refine J.plain ?_
            refine JO.t (ob_move rfl) rfl ?_
            refine JO.t (ob_addc (cc := ((q + 1 : Nat) : Int)) rfl rfl (by omega) (by omega) (by omega)) rfl ?_
            refine JO.t (ob_assign rfl) rfl ?_
            refine JO.nil ?_
            repeat refine JX.normal_block ?_
            refine JX.roundS (q + 1, r) ?_ ?_ [0, 1, 2, 3, 4, 18, 19, 20, 21, 22] ?_ ?_ ?_
            · exact ⟨⟨by show z.1 ≤ q + 1; omega, by show q + 1 ≤ r; omega, hrz⟩, fun i h1 h2 => by
    have h2 : i < q + 1 := h2
    exact sym_mono hw hb hmid hXl hYl hz hsX hsY h1 (show i ≤ q by omega) (by omega) hcq, ht⟩
            · exact (by show r - (q + 1) < r - s; omega)
            · exact (.cons rfl (.cons rfl (.cons rfl (.cons rfl (.cons rfl (.cons rfl (.cons rfl (.cons rfl (.cons rfl (.cons rfl .nil))))))))))
            · repeat (first | exact .slnil | exact List.Sublist.refl _ | apply List.Sublist.cons_cons | apply List.Sublist.cons)
            · repeat (first | exact .slnil | exact List.Sublist.refl _ | apply List.Sublist.cons_cons | apply List.Sublist.cons)
          ·
            try simp only [decide_eq_true_eq, decide_eq_false_iff_not] at ht171
            have hcq : ltF cf ((A ++ X ++ Y ++ C).getD (mid + (A.length + X.length) - 1 - q) 0) ((A ++ X ++ Y ++ C).getD q 0) = true := decide_eq_true (by simpa using ht171)
            repeat refine J.seq ?_
            refine J.plain ?_
            refine JO.t (ob_move rfl) rfl ?_
            refine JO.t (ob_assign rfl) rfl ?_
            refine JO.nil ?_
            repeat refine JX.normal_block ?_
            refine JX.roundS (s, q) ?_ ?_ [0, 1, 2, 3, 4, 18, 19, 20, 21, 22] ?_ ?_ ?_
            · exact ⟨⟨hzs, by show s ≤ q; omega, by show q ≤ z.2; omega⟩, hf, fun i h1 h2 => by
    have h1 : q ≤ i := h1
    have h2 : i < z.2 := h2
    cases hc : ltF cf ((A ++ X ++ Y ++ C).getD (mid + (A.length + X.length) - 1 - i) 0) ((A ++ X ++ Y ++ C).getD i 0) with
    | true => rfl
    | false =>
      have := sym_mono hw hb hmid hXl hYl hz hsX hsY (show z.1 ≤ q by omega) h1 h2 hc
      rw [hcq] at this; cases this⟩
            · exact (by show q - s < r - s; omega)
            · exact (.cons rfl (.cons rfl (.cons rfl (.cons rfl (.cons rfl (.cons rfl (.cons rfl (.cons rfl (.cons rfl (.cons rfl .nil))))))))))
            · repeat (first | exact .slnil | exact List.Sublist.refl _ | apply List.Sublist.cons_cons | apply List.Sublist.cons)
            · repeat (first | exact .slnil | exact List.Sublist.refl _ | apply List.Sublist.cons_cons | apply List.Sublist.cons)
        ·
          try simp only [decide_eq_true_eq, decide_eq_false_iff_not] at ht151
          repeat refine J.seq ?_
          refine J.exit ?_
          repeat (first | refine JX.hit ?_ | refine JX.miss rfl ?_ | refine JX.exit_pass ?_)
          repeat (first | refine JX.next ?_ | refine JX.normal_block ?_)
          have hrs : r = s := by omega
          subst hrs
          obtain ⟨st, hst⟩ : ∃ st, st = r := ⟨_, rfl⟩
          rw [← hst] at hzs hsr hrz hf ht
          rw [← hst]
          obtain ⟨g1, g2, g3, g4, g5, g6⟩ := sym_cut hw hb hmid hXl hYl hz hzs hrz hf ht
          have l1 : (X.take (st - A.length)).length = st - A.length := by rw [List.length_take]; omega
          have l2 : (X.drop (st - A.length)).length = X.length - (st - A.length) := List.length_drop
          have l3 : (Y.take (mid - st)).length = mid - st := by rw [List.length_take]; omega
          have l4 : (Y.drop (mid - st)).length = Y.length - (mid - st) := List.length_drop
          have m1 : Bd n (A ++ X.take (st - A.length) ++ Y.take (mid - st) ++ (X.drop (st - A.length) ++ Y.drop (mid - st) ++ C)) := fun x hx => hb x (by
            simp only [List.mem_append] at hx ⊢
            rcases hx with ((hx | hx) | hx) | ((hx | hx) | hx)
            · exact .inl (.inl (.inl hx))
            · exact .inl (.inl (.inr (List.mem_of_mem_take hx)))
            · exact .inl (.inr (List.mem_of_mem_take hx))
            · exact .inl (.inl (.inr (List.mem_of_mem_drop hx)))
            · exact .inl (.inr (List.mem_of_mem_drop hx))
            · exact .inr hx)
          have t1 : Srt (ltF cf) (X.take (st - A.length)) := hsX.sublist (List.take_sublist _ _)
          have t2 : Srt (ltF cf) (X.drop (st - A.length)) := hsX.sublist (List.drop_sublist _ _)
          have t3 : Srt (ltF cf) (Y.take (mid - st)) := hsY.sublist (List.take_sublist _ _)
          have t4 : Srt (ltF cf) (Y.drop (mid - st)) := hsY.sublist (List.drop_sublist _ _)
          refine J.eqL (L' := [⟨db, ty_int, .is (.agg ((A ++ X.take (st - A.length) ++ X.drop (st - A.length) ++ Y.take (mid - st) ++ Y.drop (mid - st) ++ C).map iC).toArray)⟩]) (by rw [List.append_assoc A (X.take (st - A.length)), List.take_append_drop, List.append_assoc (A ++ X) (Y.take (mid - st)), List.take_append_drop]) ?_
          repeat refine J.seq ?_
          refine J.plain ?_
          refine JO.t (ob_move rfl) rfl ?_
          refine JO.t (ob_move rfl) rfl ?_
          refine JO.t (ob_subv (v := ((mid + (A.length + X.length) - st : Nat) : Int)) rfl rfl (by rw [wrap64_eq (by omega) (by omega)]; omega)) rfl ?_
          refine JO.t (ob_assign rfl) rfl ?_
          refine JO.nil ?_
          repeat (first | refine JX.next ?_ | refine JX.normal_block ?_)
          refine J.sel [0, 1, 2, 3, 4, 18, 20, 24] (.cons rfl (.cons rfl (.cons rfl (.cons rfl (.cons rfl (.cons rfl (.cons rfl (.cons rfl .nil)))))))) ?_
          repeat refine J.seq ?_
          refine J.reg0 hmx (by kernel_rfl) (by kernel_rfl) ?_
          refine RT.t (ob_move rfl) ?_
          refine RT.t (ob_move rfl) ?_
          refine RT.t (ob_lss rfl rfl) ?_
          refine RT.t (ob_move rfl) ?_
          refine RT.g rfl rfl rfl (fun hg => ob_move (.inl rfl)) ?_
          refine RT.g rfl rfl rfl (fun hg => ob_move (.inl rfl)) ?_
          refine RT.g rfl rfl rfl (fun hg => ob_lss (.inr ⟨_, rfl, fun h => h⟩) (.inr ⟨_, rfl, fun h => h⟩)) ?_
          refine RT.t (ob_pickAnd rfl rfl rfl id) ?_
          refine RT.nil ?_
          refine FinS.nil0 ?_
          repeat (first | refine JX.next ?_ | refine JX.normal_block ?_)
          refine J.sel [0, 1, 2, 3, 4, 18, 20, 24, 185] (.cons rfl (.cons rfl (.cons rfl (.cons rfl (.cons rfl (.cons rfl (.cons rfl (.cons rfl (.cons rfl .nil))))))))) ?_
          repeat refine J.seq ?_
          refine J.cutZN (fun _ : Unit => [(0, .is (.slice (some ⟨db, 0, none⟩) sl sl)), (1, .is (.int .i64 ((A.length : Nat)))), (3, .is (.int .i64 ((A.length + X.length + Y.length : Nat)))), (4, .is fv), (18, .is (.int .i64 ((mid : Nat)))), (20, .is (.int .i64 ((st : Nat)))), (24, .is (.int .i64 ((mid + (A.length + X.length) - st : Nat))))]) (fun _ : Unit => [⟨db, ty_int, .is (.agg ((A ++ X.take (st - A.length) ++ Y.take (mid - st) ++ X.drop (st - A.length) ++ Y.drop (mid - st) ++ C).map iC).toArray)⟩]) (fun _ : Unit => True) ?_ ?_
          · refine J.cond rfl (fun ht185 => ?_) (fun ht185 => ?_)
            ·
              try simp only [decide_eq_true_eq, decide_eq_false_iff_not] at ht185
              simp only [Bool.and_eq_true, decide_eq_true_eq] at ht185
              have n5 : X.drop (st - A.length) ≠ [] := fun h => by have := congrArg List.length h; rw [l2, List.length_nil] at this; omega
              have n6 : Y.take (mid - st) ≠ [] := fun h => by have := congrArg List.length h; rw [l3, List.length_nil] at this; omega
              refine J.eqL (L' := [⟨db, ty_int, .is (.agg (((A ++ X.take (st - A.length)) ++ X.drop (st - A.length) ++ Y.take (mid - st) ++ (Y.drop (mid - st) ++ C)).map iC).toArray)⟩]) (by simp only [List.append_assoc]) ?_
              repeat refine J.seq ?_
              refine J.plain ?_
              refine JO.t (ob_move rfl) rfl ?_
              refine JO.t (ob_move rfl) rfl ?_
              refine JO.t (ob_move rfl) rfl ?_
              refine JO.t (ob_move rfl) rfl ?_
              refine JO.t (ob_move rfl) rfl ?_
              have e1 : ((st : Nat) : Int) = (((A ++ X.take (st - A.length)).length : Nat) : Int) := by rw [List.length_append, l1]; omega
              have e2 : ((A.length + X.length : Nat) : Int) = (((A ++ X.take (st - A.length)).length + (X.drop (st - A.length)).length : Nat) : Int) := by rw [List.length_append, l1, l2]; omega
              have e3 : ((mid + (A.length + X.length) - st : Nat) : Int) = (((A ++ X.take (st - A.length)).length + (X.drop (st - A.length)).length + (Y.take (mid - st)).length : Nat) : Int) := by rw [List.length_append, l1, l2, l3]; omega
              refine JO.callL (Lr := []) (c_slices_rotateCmpFunc_int fv db sl (A ++ X.take (st - A.length)) (X.drop (st - A.length)) (Y.take (mid - st)) (Y.drop (mid - st) ++ C) n5 n6 (by rw [List.length_append, List.length_append, l1, l2, l3, l4]; omega) hn) (fun d e => by injection e with e; show d < 220; omega) (List.Perm.of_eq (List.append_nil _).symm) (fun _ h => absurd h List.not_mem_nil) (.one rfl (.sub rfl (Sub.isEq (by rw [e1])) (.sub rfl (Sub.isEq (by rw [e2])) (.sub rfl (Sub.isEq (by rw [e3])) (.one rfl .nil))))) ?_
              intro _ _
              rw [List.append_nil]
              refine JO.eqL (L' := [⟨db, ty_int, .is (.agg ((A ++ X.take (st - A.length) ++ Y.take (mid - st) ++ X.drop (st - A.length) ++ Y.drop (mid - st) ++ C).map iC).toArray)⟩]) (by simp only [List.append_assoc]) ?_
              refine JO.nil ?_
              refine JX.midZ (()) ?_ [0, 1, 3, 4, 18, 20, 24] ?_ ?_ ?_
              · exact trivial
              · exact (.cons rfl (.cons rfl (.cons rfl (.cons rfl (.cons rfl (.cons rfl (.cons rfl .nil)))))))
              · repeat (first | exact .all | exact .nil | refine Has.own (by repeat (first | exact .here | apply Tl.past | apply Tl.there)) ?_ | refine Has.cons (by repeat (first | exact .here | apply Pk.past | apply Pk.there)) ?_)
              · exact fun G hG => by repeat (first | exact hG | refine List.mem_cons_of_mem _ ?_)
            ·
              try simp only [decide_eq_true_eq, decide_eq_false_iff_not] at ht185
              refine J.skip ?_
              have h5 : X.drop (st - A.length) = [] ∨ Y.take (mid - st) = [] := by
                simp only [Bool.and_eq_false_iff, decide_eq_false_iff_not] at ht185
                by_cases h5 : X.drop (st - A.length) = []
                · exact .inl h5
                · have := List.length_pos_iff.2 h5
                  rw [l2] at this
                  exact .inr (List.length_eq_zero_iff.1 (by rw [l3]; omega))
              refine JX.eqL (L' := [⟨db, ty_int, .is (.agg ((A ++ X.take (st - A.length) ++ Y.take (mid - st) ++ X.drop (st - A.length) ++ Y.drop (mid - st) ++ C).map iC).toArray)⟩]) (by rcases h5 with h5 | h5 <;> rw [h5] <;> simp only [List.append_nil]) ?_
              refine JX.midZ (()) ?_ [0, 1, 3, 4, 18, 20, 24] ?_ ?_ ?_
              · exact trivial
              · exact (.cons rfl (.cons rfl (.cons rfl (.cons rfl (.cons rfl (.cons rfl (.cons rfl .nil)))))))
              · repeat (first | exact .all | exact .nil | refine Has.own (by repeat (first | exact .here | apply Tl.past | apply Tl.there)) ?_ | refine Has.cons (by repeat (first | exact .here | apply Pk.past | apply Pk.there)) ?_)
              · exact fun G hG => by repeat (first | exact hG | refine List.mem_cons_of_mem _ ?_)
          · intro _ _
            try dsimp only
            repeat refine J.seq ?_
            refine J.reg0 hmx (by kernel_rfl) (by kernel_rfl) ?_
            refine RT.t (ob_move rfl) ?_
            refine RT.t (ob_move rfl) ?_
            refine RT.t (ob_lss rfl rfl) ?_
            refine RT.t (ob_move rfl) ?_
            refine RT.g rfl rfl rfl (fun hg => ob_move (.inl rfl)) ?_
            refine RT.g rfl rfl rfl (fun hg => ob_move (.inl rfl)) ?_
            refine RT.g rfl rfl rfl (fun hg => ob_lss (.inr ⟨_, rfl, fun h => h⟩) (.inr ⟨_, rfl, fun h => h⟩)) ?_
            refine RT.t (ob_pickAnd rfl rfl rfl id) ?_
            refine RT.nil ?_
            refine FinS.nil0 ?_
            repeat (first | refine JX.next ?_ | refine JX.normal_block ?_)
            refine J.sel [0, 1, 3, 4, 18, 20, 24, 199] (.cons rfl (.cons rfl (.cons rfl (.cons rfl (.cons rfl (.cons rfl (.cons rfl (.cons rfl .nil)))))))) ?_
            repeat refine J.seq ?_
            refine J.cutZN (fun z1 : List Nat => [(0, .is (.slice (some ⟨db, 0, none⟩) sl sl)), (3, .is (.int .i64 ((A.length + X.length + Y.length : Nat)))), (4, .is fv), (18, .is (.int .i64 ((mid : Nat)))), (24, .is (.int .i64 ((mid + (A.length + X.length) - st : Nat))))]) (fun z1 : List Nat => [⟨db, ty_int, .is (.agg ((A ++ z1 ++ X.drop (st - A.length) ++ Y.drop (mid - st) ++ C).map iC).toArray)⟩]) (fun z1 : List Nat => z1.Perm (X.take (st - A.length) ++ Y.take (mid - st)) ∧ Srt (ltF cf) z1) ?_ ?_
            · refine J.cond rfl (fun ht199 => ?_) (fun ht199 => ?_)
              ·
                try simp only [decide_eq_true_eq, decide_eq_false_iff_not] at ht199
                simp only [Bool.and_eq_true, decide_eq_true_eq] at ht199
                have n5 : X.take (st - A.length) ≠ [] := fun h => by have := congrArg List.length h; rw [l1, List.length_nil] at this; omega
                have n6 : Y.take (mid - st) ≠ [] := fun h => by have := congrArg List.length h; rw [l3, List.length_nil] at this; omega
                refine J.eqL (L' := [⟨db, ty_int, .is (.agg ((A ++ X.take (st - A.length) ++ Y.take (mid - st) ++ (X.drop (st - A.length) ++ Y.drop (mid - st) ++ C)).map iC).toArray)⟩]) (by simp only [List.append_assoc]) ?_
                repeat refine J.seq ?_
                refine J.plain ?_
                refine JO.t (ob_move rfl) rfl ?_
                refine JO.t (ob_move rfl) rfl ?_
                refine JO.t (ob_move rfl) rfl ?_
                refine JO.t (ob_move rfl) rfl ?_
                refine JO.t (ob_move rfl) rfl ?_
                have e1 : ((st : Nat) : Int) = ((A.length + (X.take (st - A.length)).length : Nat) : Int) := by rw [l1]; omega
                have e2 : ((mid : Nat) : Int) = ((A.length + (X.take (st - A.length)).length + (Y.take (mid - st)).length : Nat) : Int) := by rw [l1, l3]; omega
                refine JO.callL (Lr := []) (IH A (X.take (st - A.length)) (Y.take (mid - st)) (X.drop (st - A.length) ++ Y.drop (mid - st) ++ C) (by rw [l1, l3]; omega) n5 n6 m1 t1 t3 (by rw [List.length_append, List.length_append, l1, l2, l3, l4]; omega)) (fun d e => by injection e with e; show d < 220; omega) (List.Perm.of_eq (List.append_nil _).symm) (fun _ h => h) (.one rfl (.one rfl (.sub rfl (Sub.isEq (by rw [e1])) (.sub rfl (Sub.isEq (by rw [e2])) (.one rfl .nil))))) ?_
                intro Z1 hZ1
                rw [List.append_nil]
                refine JO.eqL (L' := [⟨db, ty_int, .is (.agg ((A ++ Z1 ++ X.drop (st - A.length) ++ Y.drop (mid - st) ++ C).map iC).toArray)⟩]) (by simp only [List.append_assoc]) ?_
                refine JO.nil ?_
                refine JX.midZ (Z1) ?_ [0, 3, 4, 18, 24] ?_ ?_ ?_
                · exact hZ1
                · exact (.cons rfl (.cons rfl (.cons rfl (.cons rfl (.cons rfl .nil)))))
                · repeat (first | exact .all | exact .nil | refine Has.own (by repeat (first | exact .here | apply Tl.past | apply Tl.there)) ?_ | refine Has.cons (by repeat (first | exact .here | apply Pk.past | apply Pk.there)) ?_)
                · exact fun G hG => by repeat (first | exact hG | refine List.mem_cons_of_mem _ ?_)
              ·
                try simp only [decide_eq_true_eq, decide_eq_false_iff_not] at ht199
                refine J.skip ?_
                have hZ1 : (X.take (st - A.length) ++ Y.take (mid - st)).Perm (X.take (st - A.length) ++ Y.take (mid - st)) ∧ Srt (ltF cf) (X.take (st - A.length) ++ Y.take (mid - st)) := by
                  simp only [Bool.and_eq_false_iff, decide_eq_false_iff_not] at ht199
                  refine ⟨.refl _, ?_⟩
                  by_cases h5 : X.take (st - A.length) = []
                  · rw [h5]; exact t3
                  · have := List.length_pos_iff.2 h5
                    rw [l1] at this
                    have h6 : Y.take (mid - st) = [] := List.length_eq_zero_iff.1 (by rw [l3]; omega)
                    rw [h6, List.append_nil]; exact t1
                refine JX.eqL (L' := [⟨db, ty_int, .is (.agg ((A ++ (X.take (st - A.length) ++ Y.take (mid - st)) ++ X.drop (st - A.length) ++ Y.drop (mid - st) ++ C).map iC).toArray)⟩]) (by simp only [List.append_assoc]) ?_
                refine JX.midZ (X.take (st - A.length) ++ Y.take (mid - st)) ?_ [0, 3, 4, 18, 24] ?_ ?_ ?_
                · exact hZ1
                · exact (.cons rfl (.cons rfl (.cons rfl (.cons rfl (.cons rfl .nil)))))
                · repeat (first | exact .all | exact .nil | refine Has.own (by repeat (first | exact .here | apply Tl.past | apply Tl.there)) ?_ | refine Has.cons (by repeat (first | exact .here | apply Pk.past | apply Pk.there)) ?_)
                · exact fun G hG => by repeat (first | exact hG | refine List.mem_cons_of_mem _ ?_)
            · intro Z1 ⟨hp1, hs1⟩
              try dsimp only
              have lz : Z1.length = mid - A.length := by rw [hp1.length_eq, List.length_append, l1, l3]; omega
              have m2 : Bd n ((A ++ Z1) ++ X.drop (st - A.length) ++ Y.drop (mid - st) ++ C) := fun x hx => m1 x (by
                simp only [List.mem_append] at hx ⊢
                rcases hx with (((hx | hx) | hx) | hx) | hx
                · exact .inl (.inl (.inl hx))
                · rcases List.mem_append.1 (hp1.mem_iff.1 hx) with h | h
                  · exact .inl (.inl (.inr h))
                  · exact .inl (.inr h)
                · exact .inr (.inl (.inl hx))
                · exact .inr (.inl (.inr hx))
                · exact .inr (.inr hx))
              repeat refine J.seq ?_
              refine J.reg0 hmx (by kernel_rfl) (by kernel_rfl) ?_
              refine RT.t (ob_move rfl) ?_
              refine RT.t (ob_move rfl) ?_
              refine RT.t (ob_lss rfl rfl) ?_
              refine RT.t (ob_move rfl) ?_
              refine RT.g rfl rfl rfl (fun hg => ob_move (.inl rfl)) ?_
              refine RT.g rfl rfl rfl (fun hg => ob_move (.inl rfl)) ?_
              refine RT.g rfl rfl rfl (fun hg => ob_lss (.inr ⟨_, rfl, fun h => h⟩) (.inr ⟨_, rfl, fun h => h⟩)) ?_
              refine RT.t (ob_pickAnd rfl rfl rfl id) ?_
              refine RT.nil ?_
              refine FinS.nil0 ?_
              repeat (first | refine JX.next ?_ | refine JX.normal_block ?_)
              refine J.sel [0, 3, 4, 18, 24, 213] (.cons rfl (.cons rfl (.cons rfl (.cons rfl (.cons rfl (.cons rfl .nil)))))) ?_
              repeat refine J.seq ?_
              refine J.cond rfl (fun ht213 => ?_) (fun ht213 => ?_)
              ·
                try simp only [decide_eq_true_eq, decide_eq_false_iff_not] at ht213
                simp only [Bool.and_eq_true, decide_eq_true_eq] at ht213
                have n5 : X.drop (st - A.length) ≠ [] := fun h => by have := congrArg List.length h; rw [l2, List.length_nil] at this; omega
                have n6 : Y.drop (mid - st) ≠ [] := fun h => by have := congrArg List.length h; rw [l4, List.length_nil] at this; omega
                refine J.eqL (L' := [⟨db, ty_int, .is (.agg (((A ++ Z1) ++ X.drop (st - A.length) ++ Y.drop (mid - st) ++ C).map iC).toArray)⟩]) (by simp only [List.append_assoc]) ?_
                repeat refine J.seq ?_
                refine J.plain ?_
                refine JO.t (ob_move rfl) rfl ?_
                refine JO.t (ob_move rfl) rfl ?_
                refine JO.t (ob_move rfl) rfl ?_
                refine JO.t (ob_move rfl) rfl ?_
                refine JO.t (ob_move rfl) rfl ?_
                have e1 : ((mid : Nat) : Int) = (((A ++ Z1).length : Nat) : Int) := by rw [List.length_append, lz]; omega
                have e2 : ((mid + (A.length + X.length) - st : Nat) : Int) = (((A ++ Z1).length + (X.drop (st - A.length)).length : Nat) : Int) := by rw [List.length_append, lz, l2]; omega
                have e3 : ((A.length + X.length + Y.length : Nat) : Int) = (((A ++ Z1).length + (X.drop (st - A.length)).length + (Y.drop (mid - st)).length : Nat) : Int) := by rw [List.length_append, lz, l2, l4]; omega
                refine JO.callL (Lr := []) (IH (A ++ Z1) (X.drop (st - A.length)) (Y.drop (mid - st)) C (by rw [l2, l4]; omega) n5 n6 m2 t2 t4 (by rw [List.length_append, lz, l2, l4]; omega)) (fun d e => by injection e with e; show d < 220; omega) (List.Perm.of_eq (List.append_nil _).symm) (fun _ h => h) (.one rfl (.sub rfl (Sub.isEq (by rw [e1])) (.sub rfl (Sub.isEq (by rw [e2])) (.sub rfl (Sub.isEq (by rw [e3])) (.one rfl .nil))))) ?_
                intro Z2 hZ2
                rw [List.append_nil]
                refine JO.eqL (L' := [⟨db, ty_int, .is (.agg ((A ++ (Z1 ++ Z2) ++ C).map iC).toArray)⟩]) (by simp only [List.append_assoc]) ?_
                refine JO.nil ?_
                refine JX.normal_ret ?_
                obtain ⟨hs2, hp2⟩ := merge_join hw bX bY hsX hsY (by omega) g4 hp1 hZ2.1 hs1 hZ2.2 g5 g6
                exact JX.retL0 (Lr := []) (L1 := fun Z => [⟨db, ty_int, .is (.agg ((A ++ Z ++ C).map iC).toArray)⟩]) rfl (Z1 ++ Z2) ⟨hp2, hs2⟩ (List.Perm.of_eq (List.append_nil _).symm) rfl hb0 rfl
              ·
                try simp only [decide_eq_true_eq, decide_eq_false_iff_not] at ht213
                refine J.skip ?_
                refine JX.normal_ret ?_
                have hZ2 : Srt (ltF cf) (X.drop (st - A.length) ++ Y.drop (mid - st)) := by
                  simp only [Bool.and_eq_false_iff, decide_eq_false_iff_not] at ht213
                  by_cases h5 : X.drop (st - A.length) = []
                  · rw [h5]; exact t4
                  · have h6 : Y.drop (mid - st) = [] := List.length_eq_zero_iff.1 (by
                      have := List.length_pos_iff.2 h5
                      rw [l2] at this
                      rw [l4]
                      omega)
                    rw [h6, List.append_nil]; exact t2
                obtain ⟨hs2, hp2⟩ := merge_join hw bX bY hsX hsY (by omega) g4 hp1 (.refl _) hs1 hZ2 g5 g6
                exact JX.retL0 (Lr := []) (L1 := fun Z => [⟨db, ty_int, .is (.agg ((A ++ Z ++ C).map iC).toArray)⟩]) rfl (Z1 ++ (X.drop (st - A.length) ++ Y.drop (mid - st))) ⟨hp2, hs2⟩ (List.Perm.of_eq (by rw [List.append_nil]; simp only [List.append_assoc])) rfl hb0 rfl
end Go.Proofs.Ytgpikmonklainaa
