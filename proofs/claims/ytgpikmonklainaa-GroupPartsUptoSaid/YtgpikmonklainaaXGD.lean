/- slices: parts of a row of indices change places. No condition. -/
import Derived.Test.YtgpikmonklainaaXGC
set_option maxRecDepth 20000
namespace Go.Proofs.Ytgpikmonklainaa
open Go Go.Vc
open Go.Vl Go.Od
theorem c_slices_swapRangeCmpFunc_int (fv : Value) (db sl : Nat) (A P M Q C : List Nat) (hl : P.length = Q.length) (hsl : sl = A.length + P.length + M.length + Q.length + C.length) (hn : sl ≤ 1048576) : CallL Try.prog f_slices_swapRangeCmpFunc_int ([⟨db, ty_int, .is (.agg ((A ++ P ++ M ++ Q ++ C).map iC).toArray)⟩]) [] [.is (.slice (some ⟨db, 0, none⟩) sl sl), .is (.int .i64 ((A.length : Nat))), .is (.int .i64 ((A.length + P.length + M.length : Nat))), .is (.int .i64 ((P.length : Nat))), .is fv] (fun _ : Unit => True) (fun _ => [⟨db, ty_int, .is (.agg ((A ++ Q ++ M ++ P ++ C).map iC).toArray)⟩]) (fun _ => .is (.tuple #[])) :=
CallL.of (fn := Try.f63) Try.func63 (n := 38) rfl rfl rfl (fun _ _ => by kernel_rfl) fun E W hb0 => by
  refine J.eqL (L' := [⟨db, ty_int, .is (.agg ((swD A P M Q C 0).map iC).toArray)⟩]) (by rw [swD_zero]) ?_
  repeat refine J.seq ?_
  refine J.plain ?_
  refine JO.t (ob_assign rfl) rfl ?_
  refine JO.nil ?_
  repeat (first | refine JX.next ?_ | refine JX.normal_block ?_)
  refine J.sel [0, 1, 2, 3, 10] (.cons rfl (.cons rfl (.cons rfl (.cons rfl (.cons rfl .nil))))) ?_
  repeat refine J.seq ?_
  refine J.block ?_
  repeat refine J.seq ?_
  refine J.loopG (α := Nat) (fun y => [(0, .is (.slice (some ⟨db, 0, none⟩) sl sl)), (1, .is (.int .i64 ((A.length : Nat)))), (2, .is (.int .i64 ((A.length + P.length + M.length : Nat)))), (3, .is (.int .i64 ((P.length : Nat)))), (10, .is (.int .i64 ((y : Nat))))]) (fun y => [⟨db, ty_int, .is (.agg ((swD A P M Q C y).map iC).toArray)⟩]) (fun y => fun _ => True) (fun y => y ≤ P.length) (fun y => P.length - y) 0 [0, 1, 2, 3, 10] (.cons rfl (.cons rfl (.cons rfl (.cons rfl (.cons rfl .nil))))) rfl (fun _ => trivial) (Nat.zero_le _) fun i hi => ?_
  try dsimp only
  try dsimp only at hi
  repeat refine J.seq ?_
  refine J.plain ?_
  refine JO.t (ob_move rfl) rfl ?_
  refine JO.t (ob_move rfl) rfl ?_
  refine JO.t (ob_lss rfl rfl) rfl ?_
  refine JO.nil ?_
  repeat (first | refine JX.next ?_ | refine JX.normal_block ?_)
  refine J.sel [0, 1, 2, 3, 10, 13] (.cons rfl (.cons rfl (.cons rfl (.cons rfl (.cons rfl (.cons rfl .nil)))))) ?_
  repeat refine J.seq ?_
  refine J.cond rfl (fun ht13 => ?_) (fun ht13 => ?_)
  ·
    try simp only [decide_eq_true_eq, decide_eq_false_iff_not] at ht13
    refine J.skip ?_
    repeat (first | refine JX.next ?_ | refine JX.normal_block ?_)
    repeat refine J.seq ?_
    refine J.block ?_
    have hi2 : i < P.length := by omega
    have hlen := swD_len (A := A) (M := M) (C := C) hl hi
    repeat refine J.seq ?_
    refine J.regFl 21 [⟨4, 20, [0]⟩, ⟨5, 21, [2]⟩, ⟨6, 22, [10]⟩, ⟨7, 23, [21, 22]⟩] [0, 2, 10] (sgv [(0, .slice (some ⟨db, 0, none⟩) sl sl), (2, .int .i64 ((A.length + P.length + M.length : Nat))), (10, .int .i64 ((i : Nat))), (20, .slice (some ⟨db, 0, none⟩) sl sl), (21, .int .i64 ((A.length + P.length + M.length : Nat))), (22, .int .i64 ((i : Nat))), (23, .int .i64 ((A.length + P.length + M.length + i : Nat)))]) hmx (by kernel_rfl) rfl rfl rfl (fun _ _ h => by cases h) (by simp [Op.operands]) (by kernel_rfl) ⟨rfl, rfl, rfl, trivial⟩ ⟨fl_mv (s := 0) rfl rfl (by simp) rfl, fl_mv (s := 2) rfl rfl (by simp) rfl, fl_mv (s := 10) rfl rfl (by simp) rfl, fl_add (s := 21) (t := 22) (p := ((A.length + P.length + M.length : Nat) : Int)) (q := ((i : Nat) : Int)) (r := ((A.length + P.length + M.length + i : Nat) : Int)) rfl rfl (by simp) (by simp) rfl rfl rfl (by omega) (by omega) (by omega), trivial⟩ ?_
    refine RT.t (ob_move rfl) ?_
    refine RT.t (ob_move rfl) ?_
    refine RT.t (ob_move rfl) ?_
    refine RT.t (ob_addv (v := ((A.length + i : Nat) : Int)) rfl rfl (by rw [wrap64_eq (by omega) (by omega)]; omega)) ?_
    refine RT.t (ob_move rfl) ?_
    refine RT.t (ob_move rfl) ?_
    refine RT.t (ob_move rfl) ?_
    refine RT.t (ob_addv (v := ((A.length + P.length + M.length + i : Nat) : Int)) rfl rfl (by rw [wrap64_eq (by omega) (by omega)]; omega)) ?_
    refine RT.t (ob_move rfl) ?_
    refine RT.t (ob_move rfl) ?_
    refine RT.t (ob_move rfl) ?_
    refine RT.t (ob_addv (v := ((A.length + P.length + M.length + i : Nat) : Int)) rfl rfl (by rw [wrap64_eq (by omega) (by omega)]; omega)) ?_
    refine RT.t (ob_indexAddr el_sl_int rfl rfl rfl (by omega) (by omega)) ?_
    refine RT.t (ob_ld1 sz_int rfl (nth_int (l := swD A P M Q C i) (i := A.length + P.length + M.length + i) (by rw [hlen]; omega) (by omega))) ?_
    refine RT.t (ob_move rfl) ?_
    refine RT.t (ob_move rfl) ?_
    refine RT.t (ob_move rfl) ?_
    refine RT.t (ob_addv (v := ((A.length + i : Nat) : Int)) rfl rfl (by rw [wrap64_eq (by omega) (by omega)]; omega)) ?_
    refine RT.t (ob_indexAddr el_sl_int rfl rfl rfl (by omega) (by omega)) ?_
    refine RT.t (ob_ld1 sz_int rfl (nth_int (l := swD A P M Q C i) (i := A.length + i) (by rw [hlen]; omega) (by omega))) ?_
    refine RT.t (ob_indexAddr el_sl_int rfl rfl rfl (by omega) (by omega)) ?_
    refine RT.nil ?_
    refine FinS.tailF (L' := [⟨db, ty_int, .is (.agg (((swD A P M Q C i).set (A.length + i) ((swD A P M Q C i).getD (A.length + P.length + M.length + i) 0)).map iC).toArray)⟩]) ?_ ?_ ?_
    rotate_left
    · exact obm_storeF1 (cs := (swD A P M Q C i).map iC) (cs' := ((swD A P M Q C i).set (A.length + i) ((swD A P M Q C i).getD (A.length + P.length + M.length + i) 0)).map iC) rfl rfl rfl rfl (by repeat (first | exact .here | apply Upd.there)) (by rw [show 0 + Int.toNat ((A.length + i : Nat) : Int) * 1 = A.length + i by omega]; exact splice_set iC _ _ _ (by first | (rw [hlen]; omega) | (rw [List.length_set, hlen]; omega))) (Nat.ble_eq_true_of_le (by rw [List.length_map, hlen]; omega)) ss_int
    rotate_left
    · rfl
    refine JO.t (ob_indexAddr el_sl_int rfl rfl rfl (by omega) (by omega)) rfl ?_
    refine JO.m (obm_storeF1 (cs := ((swD A P M Q C i).set (A.length + i) ((swD A P M Q C i).getD (A.length + P.length + M.length + i) 0)).map iC) (cs' := (((swD A P M Q C i).set (A.length + i) ((swD A P M Q C i).getD (A.length + P.length + M.length + i) 0)).set (A.length + P.length + M.length + i) ((swD A P M Q C i).getD (A.length + i) 0)).map iC) rfl rfl rfl rfl (by repeat (first | exact .here | apply Upd.there)) (by rw [show 0 + Int.toNat ((A.length + P.length + M.length + i : Nat) : Int) * 1 = A.length + P.length + M.length + i by omega]; exact splice_set iC _ _ _ (by first | (rw [hlen]; omega) | (rw [List.length_set, hlen]; omega))) (Nat.ble_eq_true_of_le (by rw [List.length_map, List.length_set, hlen]; omega)) ss_int) (by rfl) ?_
    refine JO.eqL (L' := [⟨db, ty_int, .is (.agg ((swD A P M Q C (i + 1)).map iC).toArray)⟩]) (by rw [← swD_step hl hi2]; rfl) ?_
    refine JO.nil ?_
    repeat (first | refine JX.next ?_ | refine JX.normal_block ?_)
    refine J.sel [0, 1, 2, 3, 10] (.cons rfl (.cons rfl (.cons rfl (.cons rfl (.cons rfl .nil))))) ?_
    repeat refine J.seq ?_
    refine J.plain ?_
    refine JO.t (ob_move rfl) rfl ?_
    refine JO.t (ob_addc (cc := ((i + 1 : Nat) : Int)) rfl rfl (by omega) (by omega) (by omega)) rfl ?_
    refine JO.t (ob_assign rfl) rfl ?_
    refine JO.nil ?_
    repeat refine JX.normal_block ?_
    refine JX.roundG (x := i) (i + 1) ?_ ?_ [0, 1, 2, 3, 10] ?_ ?_ ?_ ?_
    · exact (by show i + 1 ≤ P.length; omega)
    · exact (by show P.length - (i + 1) < P.length - i; omega)
    · exact (.cons rfl (.cons rfl (.cons rfl (.cons rfl (.cons rfl .nil)))))
    · repeat (first | exact .all | exact .nil | refine Has.own (by repeat (first | exact .here | apply Tl.past | apply Tl.there)) ?_ | refine Has.cons (by repeat (first | exact .here | apply Pk.past | apply Pk.there)) ?_)
    · exact fun G hG => by repeat (first | exact hG | refine List.mem_cons_of_mem _ ?_)
    · exact fun _ _ _ => fun _ _ => trivial
  ·
    try simp only [decide_eq_true_eq, decide_eq_false_iff_not] at ht13
    repeat refine J.seq ?_
    refine J.exit ?_
    repeat (first | refine JX.hit ?_ | refine JX.miss rfl ?_ | refine JX.exit_pass ?_)
    repeat (first | refine JX.next ?_ | refine JX.normal_block ?_)
    refine JX.normal_ret ?_
    exact JX.retL0 (Lr := []) (L1 := fun _ : Unit => [⟨db, ty_int, .is (.agg ((A ++ Q ++ M ++ P ++ C).map iC).toArray)⟩]) rfl () trivial (List.Perm.of_eq (by rw [List.append_nil, swD_end hl (by omega)])) rfl hb0 rfl
theorem c_slices_rotateCmpFunc_int (fv : Value) (db sl : Nat) (A X Y C : List Nat) (hX : X ≠ []) (hY : Y ≠ []) (hsl : sl = A.length + X.length + Y.length + C.length) (hn : sl ≤ 1048576) : CallL Try.prog f_slices_rotateCmpFunc_int ([⟨db, ty_int, .is (.agg ((A ++ X ++ Y ++ C).map iC).toArray)⟩]) [] [.is (.slice (some ⟨db, 0, none⟩) sl sl), .is (.int .i64 ((A.length : Nat))), .is (.int .i64 ((A.length + X.length : Nat))), .is (.int .i64 ((A.length + X.length + Y.length : Nat))), .is fv] (fun _ : Unit => True) (fun _ => [⟨db, ty_int, .is (.agg ((A ++ Y ++ X ++ C).map iC).toArray)⟩]) (fun _ => .is (.tuple #[])) :=
CallL.of (fn := Try.f62) Try.func62 (n := 58) rfl rfl rfl (fun _ _ => by kernel_rfl) fun E W hb0 => by
  repeat refine J.seq ?_
  refine J.plain ?_
  refine JO.t (ob_move rfl) rfl ?_
  refine JO.t (ob_move rfl) rfl ?_
  refine JO.t (ob_subv (v := ((X.length : Nat) : Int)) rfl rfl (by rw [wrap64_eq (by omega) (by omega)]; omega)) rfl ?_
  refine JO.t (ob_assign rfl) rfl ?_
  refine JO.nil ?_
  repeat (first | refine JX.next ?_ | refine JX.normal_block ?_)
  refine J.sel [0, 2, 3, 4, 10] (.cons rfl (.cons rfl (.cons rfl (.cons rfl (.cons rfl .nil))))) ?_
  repeat refine J.seq ?_
  refine J.plain ?_
  refine JO.t (ob_move rfl) rfl ?_
  refine JO.t (ob_move rfl) rfl ?_
  refine JO.t (ob_subv (v := ((Y.length : Nat) : Int)) rfl rfl (by rw [wrap64_eq (by omega) (by omega)]; omega)) rfl ?_
  refine JO.t (ob_assign rfl) rfl ?_
  refine JO.nil ?_
  repeat (first | refine JX.next ?_ | refine JX.normal_block ?_)
  refine J.sel [0, 2, 4, 10, 11] (.cons rfl (.cons rfl (.cons rfl (.cons rfl (.cons rfl .nil))))) ?_
  repeat refine J.seq ?_
  refine J.block ?_
  repeat refine J.seq ?_
  refine J.loopG (α := List Nat × List Nat × List Nat × List Nat) (fun y => [(0, .is (.slice (some ⟨db, 0, none⟩) sl sl)), (2, .is (.int .i64 ((A.length + X.length : Nat)))), (4, .is fv), (10, .is (.int .i64 ((y.2.1.length : Nat)))), (11, .is (.int .i64 ((y.2.2.1.length : Nat))))]) (fun y => [⟨db, ty_int, .is (.agg ((y.1 ++ y.2.1 ++ y.2.2.1 ++ y.2.2.2).map iC).toArray)⟩]) (fun y => fun _ => True) (fun y => y.1 ++ y.2.2.1 ++ y.2.1 ++ y.2.2.2 = A ++ Y ++ X ++ C ∧ y.1.length + y.2.1.length = A.length + X.length ∧ y.2.1 ≠ [] ∧ y.2.2.1 ≠ []) (fun y => y.2.1.length + y.2.2.1.length) (A, X, Y, C) [0, 2, 4, 10, 11] (.cons rfl (.cons rfl (.cons rfl (.cons rfl (.cons rfl .nil))))) rfl (fun _ => trivial) ⟨rfl, rfl, hX, hY⟩ fun ⟨B, P, Q, D⟩ ⟨ht, hm, hP, hQ⟩ => ?_
  try dsimp only
  try dsimp only at P
  try dsimp only at Q
  try dsimp only at D
  try dsimp only at ht
  try dsimp only at hm
  try dsimp only at hP
  try dsimp only at hQ
  repeat refine J.seq ?_
  refine J.plain ?_
  refine JO.t (ob_move rfl) rfl ?_
  refine JO.t (ob_move rfl) rfl ?_
  refine JO.t (ob_neq rfl rfl) rfl ?_
  refine JO.nil ?_
  repeat (first | refine JX.next ?_ | refine JX.normal_block ?_)
  refine J.sel [0, 2, 4, 10, 11, 20] (.cons rfl (.cons rfl (.cons rfl (.cons rfl (.cons rfl (.cons rfl .nil)))))) ?_
  repeat refine J.seq ?_
  refine J.cond rfl (fun ht20 => ?_) (fun ht20 => ?_)
  ·
    try simp only [decide_eq_true_eq, decide_eq_false_iff_not] at ht20
    refine J.skip ?_
    repeat (first | refine JX.next ?_ | refine JX.normal_block ?_)
    repeat refine J.seq ?_
    refine J.block ?_
    have hPl : 0 < P.length := List.length_pos_iff.2 hP
    have hQl : 0 < Q.length := List.length_pos_iff.2 hQ
    have hlt := congrArg List.length ht
    simp only [List.length_append] at hlt
    repeat refine J.seq ?_
    refine J.plain ?_
    refine JO.t (ob_move rfl) rfl ?_
    refine JO.t (ob_move rfl) rfl ?_
    refine JO.t (ob_gtr rfl rfl) rfl ?_
    refine JO.nil ?_
    repeat (first | refine JX.next ?_ | refine JX.normal_block ?_)
    refine J.sel [0, 2, 4, 10, 11, 23] (.cons rfl (.cons rfl (.cons rfl (.cons rfl (.cons rfl (.cons rfl .nil)))))) ?_
    repeat refine J.seq ?_
    refine J.cond rfl (fun ht23 => ?_) (fun ht23 => ?_)
    ·
      try simp only [decide_eq_true_eq, decide_eq_false_iff_not] at ht23
      have hlt2 : Q.length < P.length := by simp at ht23; omega
      have e1 : (P.take Q.length).length = Q.length := by rw [List.length_take]; omega
      have e2 : (P.drop Q.length).length = P.length - Q.length := List.length_drop
      have e3 : ((A.length + X.length : Nat) : Int) = ((B.length + (P.take Q.length).length + (P.drop Q.length).length : Nat) : Int) := by omega
      refine J.eqL (L' := [⟨db, ty_int, .is (.agg ((B ++ P.take Q.length ++ P.drop Q.length ++ Q ++ D).map iC).toArray)⟩]) (by rw [List.append_assoc B (P.take Q.length), List.take_append_drop]) ?_
      repeat refine J.seq ?_
      refine J.plain ?_
      refine JO.t (ob_move rfl) rfl ?_
      refine JO.t (ob_move rfl) rfl ?_
      refine JO.t (ob_move rfl) rfl ?_
      refine JO.t (ob_subv (v := ((B.length : Nat) : Int)) rfl rfl (by rw [wrap64_eq (by omega) (by omega)]; omega)) rfl ?_
      refine JO.t (ob_move rfl) rfl ?_
      refine JO.t (ob_move rfl) rfl ?_
      refine JO.t (ob_move rfl) rfl ?_
      refine JO.callL (Lr := []) (c_slices_swapRangeCmpFunc_int fv db sl B (P.take Q.length) (P.drop Q.length) Q D e1 (by omega) hn) (fun d e => by injection e with e; show d < 58; omega) (List.Perm.of_eq (List.append_nil _).symm) (fun _ h => absurd h List.not_mem_nil) (.one rfl (.one rfl (.sub rfl (Sub.isEq (by rw [e3])) (.sub rfl (Sub.isEq (by rw [e1])) (.one rfl .nil))))) ?_
      intro _ _
      rw [List.append_nil]
      refine JO.eqL (L' := [⟨db, ty_int, .is (.agg (((B ++ Q) ++ P.drop Q.length ++ P.take Q.length ++ D).map iC).toArray)⟩]) (by simp) ?_
      refine JO.nil ?_
      repeat (first | refine JX.next ?_ | refine JX.normal_block ?_)
      refine J.sel [0, 2, 4, 10, 11] (.cons rfl (.cons rfl (.cons rfl (.cons rfl (.cons rfl .nil))))) ?_
      refine J.coer (s := 11) (T' := .is (.int .i64 ((P.take Q.length).length : Nat))) rfl (Sub.isEq (by rw [e1])) ?_
      repeat refine J.seq ?_
      refine J.plain ?_
      refine JO.t (ob_move rfl) rfl ?_
      refine JO.t (ob_move rfl) rfl ?_
      refine JO.t (ob_subv (v := (((P.drop Q.length).length : Nat) : Int)) rfl rfl (by rw [wrap64_eq (by omega) (by omega)]; omega)) rfl ?_
      refine JO.t (ob_assign rfl) rfl ?_
      refine JO.nil ?_
      repeat refine JX.normal_block ?_
      refine JX.roundG (x := (B, P, Q, D)) (B ++ Q, P.drop Q.length, P.take Q.length, D) ?_ ?_ [0, 2, 4, 10, 11] ?_ ?_ ?_ ?_
      · exact ⟨by
    show B ++ Q ++ P.take Q.length ++ P.drop Q.length ++ D = _
    rw [List.append_assoc (B ++ Q), List.take_append_drop]
    exact ht, by show (B ++ Q).length + (P.drop Q.length).length = _; rw [List.length_append, List.length_drop]; omega, fun h => by have := congrArg List.length h; rw [List.length_drop, List.length_nil] at this; omega, fun h => by have := congrArg List.length h; rw [List.length_take, List.length_nil] at this; omega⟩
      · exact (by show (P.drop Q.length).length + (P.take Q.length).length < P.length + Q.length; rw [List.length_drop, List.length_take]; omega)
      · exact (.cons rfl (.cons rfl (.cons rfl (.cons rfl (.cons rfl .nil)))))
      · repeat (first | exact .all | exact .nil | refine Has.own (by repeat (first | exact .here | apply Tl.past | apply Tl.there)) ?_ | refine Has.cons (by repeat (first | exact .here | apply Pk.past | apply Pk.there)) ?_)
      · exact fun G hG => by repeat (first | exact hG | refine List.mem_cons_of_mem _ ?_)
      · exact fun _ _ _ => fun _ _ => trivial
    ·
      try simp only [decide_eq_true_eq, decide_eq_false_iff_not] at ht23
      have hlt2 : P.length < Q.length := by simp at ht20; omega
      have e1 : P.length = (Q.drop (Q.length - P.length)).length := by rw [List.length_drop]; omega
      have e2 : (Q.take (Q.length - P.length)).length = Q.length - P.length := by rw [List.length_take]; omega
      refine J.eqL (L' := [⟨db, ty_int, .is (.agg ((B ++ P ++ Q.take (Q.length - P.length) ++ Q.drop (Q.length - P.length) ++ D).map iC).toArray)⟩]) (by rw [List.append_assoc (B ++ P) (Q.take (Q.length - P.length)), List.take_append_drop]) ?_
      repeat refine J.seq ?_
      refine J.plain ?_
      refine JO.t (ob_move rfl) rfl ?_
      refine JO.t (ob_move rfl) rfl ?_
      refine JO.t (ob_move rfl) rfl ?_
      refine JO.t (ob_subv (v := ((B.length : Nat) : Int)) rfl rfl (by rw [wrap64_eq (by omega) (by omega)]; omega)) rfl ?_
      refine JO.t (ob_move rfl) rfl ?_
      refine JO.t (ob_move rfl) rfl ?_
      refine JO.t (ob_addv (v := ((A.length + X.length + Q.length : Nat) : Int)) rfl rfl (by rw [wrap64_eq (by omega) (by omega)]; omega)) rfl ?_
      refine JO.t (ob_move rfl) rfl ?_
      refine JO.t (ob_subv (v := ((B.length + P.length + (Q.take (Q.length - P.length)).length : Nat) : Int)) rfl rfl (by rw [wrap64_eq (by omega) (by omega)]; omega)) rfl ?_
      refine JO.t (ob_move rfl) rfl ?_
      refine JO.t (ob_move rfl) rfl ?_
      refine JO.callL (Lr := []) (c_slices_swapRangeCmpFunc_int fv db sl B P (Q.take (Q.length - P.length)) (Q.drop (Q.length - P.length)) D e1 (by omega) hn) (fun d e => by injection e with e; show d < 58; omega) (List.Perm.of_eq (List.append_nil _).symm) (fun _ h => absurd h List.not_mem_nil) (.one rfl (.one rfl (.one rfl (.one rfl (.one rfl .nil))))) ?_
      intro _ _
      rw [List.append_nil]
      refine JO.eqL (L' := [⟨db, ty_int, .is (.agg ((B ++ Q.drop (Q.length - P.length) ++ Q.take (Q.length - P.length) ++ (P ++ D)).map iC).toArray)⟩]) (by simp) ?_
      refine JO.nil ?_
      repeat (first | refine JX.next ?_ | refine JX.normal_block ?_)
      refine J.sel [0, 2, 4, 10, 11] (.cons rfl (.cons rfl (.cons rfl (.cons rfl (.cons rfl .nil))))) ?_
      refine J.coer (s := 10) (T' := .is (.int .i64 ((Q.drop (Q.length - P.length)).length : Nat))) rfl (Sub.isEq (by rw [← e1])) ?_
      repeat refine J.seq ?_
      refine J.plain ?_
      refine JO.t (ob_move rfl) rfl ?_
      refine JO.t (ob_move rfl) rfl ?_
      refine JO.t (ob_subv (v := (((Q.take (Q.length - P.length)).length : Nat) : Int)) rfl rfl (by rw [wrap64_eq (by omega) (by omega)]; omega)) rfl ?_
      refine JO.t (ob_assign rfl) rfl ?_
      refine JO.nil ?_
      repeat refine JX.normal_block ?_
      refine JX.roundG (x := (B, P, Q, D)) (B, Q.drop (Q.length - P.length), Q.take (Q.length - P.length), P ++ D) ?_ ?_ [0, 2, 4, 10, 11] ?_ ?_ ?_ ?_
      · exact ⟨by
    show B ++ Q.take (Q.length - P.length) ++ Q.drop (Q.length - P.length) ++ (P ++ D) = _
    rw [List.append_assoc B, List.take_append_drop, ← List.append_assoc]
    exact ht, by show B.length + (Q.drop (Q.length - P.length)).length = _; rw [List.length_drop]; omega, fun h => by have := congrArg List.length h; rw [List.length_drop, List.length_nil] at this; omega, fun h => by have := congrArg List.length h; rw [List.length_take, List.length_nil] at this; omega⟩
      · exact (by show (Q.drop (Q.length - P.length)).length + (Q.take (Q.length - P.length)).length < P.length + Q.length; rw [List.length_drop, List.length_take]; omega)
      · exact (.cons rfl (.cons rfl (.cons rfl (.cons rfl (.cons rfl .nil)))))
      · repeat (first | exact .all | exact .nil | refine Has.own (by repeat (first | exact .here | apply Tl.past | apply Tl.there)) ?_ | refine Has.cons (by repeat (first | exact .here | apply Pk.past | apply Pk.there)) ?_)
      · exact fun G hG => by repeat (first | exact hG | refine List.mem_cons_of_mem _ ?_)
      · exact fun _ _ _ => fun _ _ => trivial
  ·
    try simp only [decide_eq_true_eq, decide_eq_false_iff_not] at ht20
    repeat refine J.seq ?_
    refine J.exit ?_
    repeat (first | refine JX.hit ?_ | refine JX.miss rfl ?_ | refine JX.exit_pass ?_)
    repeat (first | refine JX.next ?_ | refine JX.normal_block ?_)
    have hPl : 0 < P.length := List.length_pos_iff.2 hP
    have hlt := congrArg List.length ht
    simp only [List.length_append] at hlt
    have hPQ : P.length = Q.length := by simp at ht20; omega
    refine J.eqL (L' := [⟨db, ty_int, .is (.agg ((B ++ P ++ [] ++ Q ++ D).map iC).toArray)⟩]) (by simp) ?_
    repeat refine J.seq ?_
    refine J.plain ?_
    refine JO.t (ob_move rfl) rfl ?_
    refine JO.t (ob_move rfl) rfl ?_
    refine JO.t (ob_move rfl) rfl ?_
    refine JO.t (ob_subv (v := ((B.length : Nat) : Int)) rfl rfl (by rw [wrap64_eq (by omega) (by omega)]; omega)) rfl ?_
    refine JO.t (ob_move rfl) rfl ?_
    refine JO.t (ob_move rfl) rfl ?_
    refine JO.t (ob_move rfl) rfl ?_
    refine JO.callL (Lr := []) (c_slices_swapRangeCmpFunc_int fv db sl B P [] Q D hPQ (by simp only [List.length_nil]; omega) hn) (fun d e => by injection e with e; show d < 58; omega) (List.Perm.of_eq (List.append_nil _).symm) (fun _ h => absurd h List.not_mem_nil) (.one rfl (.one rfl (.sub rfl (Sub.isEq (by rw [show ((A.length + X.length : Nat) : Int) = ((B.length + P.length + ([] : List Nat).length : Nat) : Int) by simp only [List.length_nil]; omega])) (.one rfl (.one rfl .nil))))) ?_
    intro _ _
    rw [List.append_nil]
    refine JO.eqL (L' := [⟨db, ty_int, .is (.agg ((A ++ Y ++ X ++ C).map iC).toArray)⟩]) (by rw [← ht]; simp) ?_
    refine JO.nil ?_
    refine JX.normal_ret ?_
    exact JX.retL0 (Lr := []) (L1 := fun _ : Unit => [⟨db, ty_int, .is (.agg ((A ++ Y ++ X ++ C).map iC).toArray)⟩]) rfl () trivial (List.Perm.of_eq (by rw [List.append_nil])) rfl hb0 rfl
end Go.Proofs.Ytgpikmonklainaa
