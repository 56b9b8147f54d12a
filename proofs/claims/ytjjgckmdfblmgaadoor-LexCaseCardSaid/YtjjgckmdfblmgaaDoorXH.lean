/- Capitals and small letters: what the statement does. No condition. -/
import Derived.Test.YtjjgckmdfblmgaaDoorXLC
import Derived.Test.YtjjgckmdfblmgaaDoorXG3
set_option maxRecDepth 20000
namespace Go.Proofs.YtjjgckmdfblmgaaDoor
open Go Go.Vc
theorem c_law09_LexCase (s : ByteArray) (hs : s.size ≤ 140737488351232) : CallF Tryd.prog f_law09_LexCase [GF] [.is (.string s)] (.is (.bool true)) :=
CallF.of (fn := Tryd.f6) Tryd.func6 (n := 61) rfl rfl rfl (fun _ _ => by kernel_rfl) fun E W => by
  repeat refine J.seq ?_
  refine J.plain ?_
  refine JO.t (ob_assign rfl) rfl ?_
  refine JO.nil ?_
  repeat (first | refine JX.next ?_ | refine JX.normal_block ?_)
  refine J.sel [0] (.cons rfl .nil) ?_
  repeat refine J.seq ?_
  refine J.plain ?_
  refine JO.t (ob_callF rfl (c_law09_awake) (by simp) .nil) rfl ?_
  refine JO.t (ob_not rfl) rfl ?_
  refine JO.nil ?_
  repeat (first | refine JX.next ?_ | refine JX.normal_block ?_)
  refine J.sel [0, 12] (.cons rfl (.cons rfl .nil)) ?_
  repeat refine J.seq ?_
  refine J.cond rfl (fun ht12 => ?_) (fun ht12 => ?_)
  ·
    try simp only [decide_eq_true_eq, decide_eq_false_iff_not] at ht12
    repeat refine J.seq ?_
    refine J.plain ?_
    refine JO.t (ob_assign rfl) rfl ?_
    refine JO.nil ?_
    repeat (first | refine JX.next ?_ | refine JX.normal_block ?_)
    refine J.sel [2] (.cons rfl .nil) ?_
    repeat refine J.seq ?_
    refine J.ret ?_
    repeat (first | refine JX.ret_pass ?_ | refine JX.ret_block ?_)
    exact JX.ret1is rfl rfl (by simp at ht12)
  ·
    try simp only [decide_eq_true_eq, decide_eq_false_iff_not] at ht12
    refine J.skip ?_
    repeat (first | refine JX.next ?_ | refine JX.normal_block ?_)
    repeat refine J.seq ?_
    refine J.plain ?_
    refine JO.t (ob_assign rfl) rfl ?_
    refine JO.nil ?_
    repeat (first | refine JX.next ?_ | refine JX.normal_block ?_)
    refine J.sel [0, 3] (.cons rfl (.cons rfl .nil)) ?_
    repeat refine J.seq ?_
    refine J.plain ?_
    refine JO.t (ob_assign rfl) rfl ?_
    refine JO.nil ?_
    repeat (first | refine JX.next ?_ | refine JX.normal_block ?_)
    refine J.sel [0, 3, 4] (.cons rfl (.cons rfl (.cons rfl .nil))) ?_
    repeat refine J.seq ?_
    refine J.plain ?_
    refine JO.t (ob_assign rfl) rfl ?_
    refine JO.nil ?_
    repeat (first | refine JX.next ?_ | refine JX.normal_block ?_)
    refine J.sel [0, 3, 4, 5] (.cons rfl (.cons rfl (.cons rfl (.cons rfl .nil)))) ?_
    repeat refine J.seq ?_
    refine J.block ?_
    repeat refine J.seq ?_
    refine J.loopG (α := Nat × Bool × List UInt8 × Option (Nat × List Value) × Nat) (fun z => [(0, .is (.string s)), (3, .is (sliceO z.2.2.2.1 z.2.2.1.length z.2.2.2.2)), (4, .is (.bool z.2.1)), (5, .is (.int .i64 (z.1 : Nat)))]) (fun z => ownO z.2.2.2.1 ty_uint8 []) (fun z => fun _ => True) (fun z => z.1 ≤ s.size ∧ z.2.2.1 ++ caseL z.2.1 (dr s z.1) = caseL false s.data.toList ∧ Grows bC 1 z.2.2.1 z.2.2.2.1 z.2.2.2.2 ∧ z.2.2.1.length ≤ z.1) (fun z => s.size - z.1) (0, false, [], none, 0) [0, 3, 4, 5] (.cons rfl (.cons rfl (.cons rfl (.cons rfl .nil)))) rfl (fun _ => trivial) ⟨by omega, rfl, rfl, by simp⟩ fun ⟨i, q, acc, st, cp⟩ ⟨hi, hx, hG, hal⟩ => ?_
    try dsimp only
    try dsimp only at q
    try dsimp only at acc
    try dsimp only at st
    try dsimp only at cp
    try dsimp only at hi
    try dsimp only at hx
    try dsimp only at hG
    try dsimp only at hal
    repeat refine J.seq ?_
    refine J.plain ?_
    refine JO.t (ob_move rfl) rfl ?_
    refine JO.t (ob_move rfl) rfl ?_
    refine JO.t (ob_slen un_string rfl) rfl ?_
    refine JO.t (ob_lss rfl rfl) rfl ?_
    refine JO.nil ?_
    repeat (first | refine JX.next ?_ | refine JX.normal_block ?_)
    refine J.sel [0, 3, 4, 5, 16] (.cons rfl (.cons rfl (.cons rfl (.cons rfl (.cons rfl .nil))))) ?_
    repeat refine J.seq ?_
    refine J.cond rfl (fun ht16 => ?_) (fun ht16 => ?_)
    ·
      try simp only [decide_eq_true_eq, decide_eq_false_iff_not] at ht16
      refine J.skip ?_
      repeat (first | refine JX.next ?_ | refine JX.normal_block ?_)
      repeat refine J.seq ?_
      refine J.block ?_
      repeat refine J.seq ?_
      refine J.plain ?_
      refine JO.t (ob_move rfl) rfl ?_
      refine JO.t (ob_move rfl) rfl ?_
      refine JO.t (ob_sindex un_string rfl rfl (by omega) (by omega)) rfl ?_
      refine JO.t (ob_assign rfl) rfl ?_
      refine JO.nil ?_
      repeat (first | refine JX.next ?_ | refine JX.normal_block ?_)
      refine J.sel [0, 3, 4, 5, 6] (.cons rfl (.cons rfl (.cons rfl (.cons rfl (.cons rfl .nil))))) ?_
      repeat refine J.seq ?_
      refine J.plain ?_
      refine JO.t (ob_move rfl) rfl ?_
      refine JO.t (ob_eql rfl rfl) rfl ?_
      refine JO.nil ?_
      repeat (first | refine JX.next ?_ | refine JX.normal_block ?_)
      refine J.sel [0, 3, 4, 5, 6, 23] (.cons rfl (.cons rfl (.cons rfl (.cons rfl (.cons rfl (.cons rfl .nil)))))) ?_
      repeat refine J.seq ?_
      refine J.cond rfl (fun ht23 => ?_) (fun ht23 => ?_)
      ·
        try simp only [decide_eq_true_eq, decide_eq_false_iff_not] at ht23
        repeat refine J.seq ?_
        refine J.plain ?_
        refine JO.t (ob_move rfl) rfl ?_
        refine JO.t (ob_not rfl) rfl ?_
        refine JO.t (ob_assign rfl) rfl ?_
        refine JO.nil ?_
        repeat (first | refine JX.next ?_ | refine JX.normal_block ?_)
        refine J.sel [0, 3, 4, 5, 6] (.cons rfl (.cons rfl (.cons rfl (.cons rfl (.cons rfl .nil))))) ?_
        repeat refine J.seq ?_
        refine J.reg0 hmx (by kernel_rfl) (by kernel_rfl) ?_
        refine RT.t (ob_move rfl) ?_
        refine RT.t (ob_not rfl) ?_
        refine RT.t (ob_move rfl) ?_
        refine RT.g rfl rfl rfl (fun hg => ob_move (.inl rfl)) ?_
        refine RT.g rfl rfl rfl (fun hg => ob_geq (.inr ⟨_, rfl, fun h => h⟩) (.inl rfl)) ?_
        refine RT.t (ob_pickAnd rfl rfl rfl id) ?_
        refine RT.t (ob_move rfl) ?_
        refine RT.g rfl rfl rfl (fun hg => ob_move (.inl rfl)) ?_
        refine RT.g rfl rfl rfl (fun hg => ob_leq (.inr ⟨_, rfl, fun h => h⟩) (.inl rfl)) ?_
        refine RT.t (ob_pickAnd rfl rfl rfl id) ?_
        refine RT.nil ?_
        refine FinS.nil0 ?_
        repeat (first | refine JX.next ?_ | refine JX.normal_block ?_)
        refine J.sel [0, 3, 4, 5, 6, 35] (.cons rfl (.cons rfl (.cons rfl (.cons rfl (.cons rfl (.cons rfl .nil)))))) ?_
        repeat refine J.seq ?_
        refine J.cond rfl (fun ht35 => ?_) (fun ht35 => ?_)
        ·
          try simp only [decide_eq_true_eq, decide_eq_false_iff_not] at ht35
          repeat refine J.seq ?_
          refine J.plain ?_
          refine JO.t (ob_move rfl) rfl ?_
          refine JO.t (ob_adde (cc := ((by_ s i + 32 : UInt8).toNat : Int)) rfl rfl (add32 (cap_of ht35))) rfl ?_
          refine JO.t (ob_assign rfl) rfl ?_
          refine JO.nil ?_
          repeat (first | refine JX.next ?_ | refine JX.normal_block ?_)
          refine J.sel [0, 3, 4, 5, 6] (.cons rfl (.cons rfl (.cons rfl (.cons rfl (.cons rfl .nil))))) ?_
          repeat refine J.seq ?_
          refine J.plain ?_
          refine JO.t (ob_move rfl) rfl ?_
          refine JO.t (ob_move rfl) rfl ?_
          refine JO.t (ob_buildSlice (cs := [_]) sl_sl_uint8 (by omega) (by omega) (.cons rfl .nil) rfl rfl rfl) rfl ?_
          refine JO.apP [by_ s i + 32] ap_sl_uint8 bC_len (by repeat (first | exact .here | apply Cx.past | apply Cx.there)) hG rfl rfl (fun L => src_new un_sl_uint8 rfl rfl) (by simp) (by simp; omega) (by simp; omega) rfl (fun st1 cp1 hG1 => ?_)
          try dsimp only
          refine JO.t (ob_assign rfl) rfl ?_
          refine JO.nil ?_
          repeat (first | refine JX.next ?_ | refine JX.normal_block ?_)
          refine J.sel [0, 3, 4, 5] (.cons rfl (.cons rfl (.cons rfl (.cons rfl .nil)))) ?_
          repeat refine J.seq ?_
          refine J.plain ?_
          refine JO.t (ob_move rfl) rfl ?_
          refine JO.t (ob_addc (cc := ((i + 1 : Nat) : Int)) rfl rfl (by omega) (by omega) (by omega)) rfl ?_
          refine JO.t (ob_assign rfl) rfl ?_
          refine JO.nil ?_
          repeat refine JX.normal_block ?_
          refine JX.roundG (x := ⟨i, q, acc, st, cp⟩) (i + 1, !q, acc ++ [by_ s i + 32], st1, cp1) ?_ ?_ [0, 3, 4, 5] ?_ ?_ ?_ ?_
          · exact ⟨by omega, case_next (by omega) (flip_q (show (((by_ s i).toNat : Int) == 39) = true from ht23)) (by unfold lowC; rw [if_pos (show (!(!q) && capB (by_ s i)) = true by rw [capB, ← Bool.and_assoc]; exact ht35)]) hx, hG1, by simp; omega⟩
          · exact (by simp only; omega)
          · exact (.cons rfl (.cons rfl (.cons rfl (.cons rfl .nil))))
          · repeat (first | exact .all | exact .nil | refine Has.own (by repeat (first | exact .here | apply Tl.past | apply Tl.there)) ?_ | refine Has.cons (by repeat (first | exact .here | apply Pk.past | apply Pk.there)) ?_)
          · exact fun G hG => by repeat (first | exact hG | refine List.mem_cons_of_mem _ ?_)
          · exact fun _ _ _ => fun _ _ => trivial
        ·
          try simp only [decide_eq_true_eq, decide_eq_false_iff_not] at ht35
          refine J.skip ?_
          repeat (first | refine JX.next ?_ | refine JX.normal_block ?_)
          repeat refine J.seq ?_
          refine J.plain ?_
          refine JO.t (ob_move rfl) rfl ?_
          refine JO.t (ob_move rfl) rfl ?_
          refine JO.t (ob_buildSlice (cs := [_]) sl_sl_uint8 (by omega) (by omega) (.cons rfl .nil) rfl rfl rfl) rfl ?_
          refine JO.apP [by_ s i] ap_sl_uint8 bC_len (by repeat (first | exact .here | apply Cx.past | apply Cx.there)) hG rfl rfl (fun L => src_new un_sl_uint8 rfl rfl) (by simp) (by simp; omega) (by simp; omega) rfl (fun st1 cp1 hG1 => ?_)
          try dsimp only
          refine JO.t (ob_assign rfl) rfl ?_
          refine JO.nil ?_
          repeat (first | refine JX.next ?_ | refine JX.normal_block ?_)
          refine J.sel [0, 3, 4, 5] (.cons rfl (.cons rfl (.cons rfl (.cons rfl .nil)))) ?_
          repeat refine J.seq ?_
          refine J.plain ?_
          refine JO.t (ob_move rfl) rfl ?_
          refine JO.t (ob_addc (cc := ((i + 1 : Nat) : Int)) rfl rfl (by omega) (by omega) (by omega)) rfl ?_
          refine JO.t (ob_assign rfl) rfl ?_
          refine JO.nil ?_
          repeat refine JX.normal_block ?_
          refine JX.roundG (x := ⟨i, q, acc, st, cp⟩) (i + 1, !q, acc ++ [by_ s i], st1, cp1) ?_ ?_ [0, 3, 4, 5] ?_ ?_ ?_ ?_
          · exact ⟨by omega, case_next (by omega) (flip_q (show (((by_ s i).toNat : Int) == 39) = true from ht23)) (by unfold lowC; rw [if_neg (show ¬ (!(!q) && capB (by_ s i)) = true by rw [capB, ← Bool.and_assoc]; intro h9; exact absurd (h9.symm.trans ht35) (by decide))]) hx, hG1, by simp; omega⟩
          · exact (by simp only; omega)
          · exact (.cons rfl (.cons rfl (.cons rfl (.cons rfl .nil))))
          · repeat (first | exact .all | exact .nil | refine Has.own (by repeat (first | exact .here | apply Tl.past | apply Tl.there)) ?_ | refine Has.cons (by repeat (first | exact .here | apply Pk.past | apply Pk.there)) ?_)
          · exact fun G hG => by repeat (first | exact hG | refine List.mem_cons_of_mem _ ?_)
          · exact fun _ _ _ => fun _ _ => trivial
      ·
        try simp only [decide_eq_true_eq, decide_eq_false_iff_not] at ht23
        refine J.skip ?_
        repeat (first | refine JX.next ?_ | refine JX.normal_block ?_)
        repeat refine J.seq ?_
        refine J.reg0 hmx (by kernel_rfl) (by kernel_rfl) ?_
        refine RT.t (ob_move rfl) ?_
        refine RT.t (ob_not rfl) ?_
        refine RT.t (ob_move rfl) ?_
        refine RT.g rfl rfl rfl (fun hg => ob_move (.inl rfl)) ?_
        refine RT.g rfl rfl rfl (fun hg => ob_geq (.inr ⟨_, rfl, fun h => h⟩) (.inl rfl)) ?_
        refine RT.t (ob_pickAnd rfl rfl rfl id) ?_
        refine RT.t (ob_move rfl) ?_
        refine RT.g rfl rfl rfl (fun hg => ob_move (.inl rfl)) ?_
        refine RT.g rfl rfl rfl (fun hg => ob_leq (.inr ⟨_, rfl, fun h => h⟩) (.inl rfl)) ?_
        refine RT.t (ob_pickAnd rfl rfl rfl id) ?_
        refine RT.nil ?_
        refine FinS.nil0 ?_
        repeat (first | refine JX.next ?_ | refine JX.normal_block ?_)
        refine J.sel [0, 3, 4, 5, 6, 35] (.cons rfl (.cons rfl (.cons rfl (.cons rfl (.cons rfl (.cons rfl .nil)))))) ?_
        repeat refine J.seq ?_
        refine J.cond rfl (fun ht35 => ?_) (fun ht35 => ?_)
        ·
          try simp only [decide_eq_true_eq, decide_eq_false_iff_not] at ht35
          repeat refine J.seq ?_
          refine J.plain ?_
          refine JO.t (ob_move rfl) rfl ?_
          refine JO.t (ob_adde (cc := ((by_ s i + 32 : UInt8).toNat : Int)) rfl rfl (add32 (cap_of ht35))) rfl ?_
          refine JO.t (ob_assign rfl) rfl ?_
          refine JO.nil ?_
          repeat (first | refine JX.next ?_ | refine JX.normal_block ?_)
          refine J.sel [0, 3, 4, 5, 6] (.cons rfl (.cons rfl (.cons rfl (.cons rfl (.cons rfl .nil))))) ?_
          repeat refine J.seq ?_
          refine J.plain ?_
          refine JO.t (ob_move rfl) rfl ?_
          refine JO.t (ob_move rfl) rfl ?_
          refine JO.t (ob_buildSlice (cs := [_]) sl_sl_uint8 (by omega) (by omega) (.cons rfl .nil) rfl rfl rfl) rfl ?_
          refine JO.apP [by_ s i + 32] ap_sl_uint8 bC_len (by repeat (first | exact .here | apply Cx.past | apply Cx.there)) hG rfl rfl (fun L => src_new un_sl_uint8 rfl rfl) (by simp) (by simp; omega) (by simp; omega) rfl (fun st1 cp1 hG1 => ?_)
          try dsimp only
          refine JO.t (ob_assign rfl) rfl ?_
          refine JO.nil ?_
          repeat (first | refine JX.next ?_ | refine JX.normal_block ?_)
          refine J.sel [0, 3, 4, 5] (.cons rfl (.cons rfl (.cons rfl (.cons rfl .nil)))) ?_
          repeat refine J.seq ?_
          refine J.plain ?_
          refine JO.t (ob_move rfl) rfl ?_
          refine JO.t (ob_addc (cc := ((i + 1 : Nat) : Int)) rfl rfl (by omega) (by omega) (by omega)) rfl ?_
          refine JO.t (ob_assign rfl) rfl ?_
          refine JO.nil ?_
          repeat refine JX.normal_block ?_
          refine JX.roundG (x := ⟨i, q, acc, st, cp⟩) (i + 1, q, acc ++ [by_ s i + 32], st1, cp1) ?_ ?_ [0, 3, 4, 5] ?_ ?_ ?_ ?_
          · exact ⟨by omega, case_next (by omega) (flip_n (show (((by_ s i).toNat : Int) == 39) = false from ht23)) (by unfold lowC; rw [if_pos (show (!q && capB (by_ s i)) = true by rw [capB, ← Bool.and_assoc]; exact ht35)]) hx, hG1, by simp; omega⟩
          · exact (by simp only; omega)
          · exact (.cons rfl (.cons rfl (.cons rfl (.cons rfl .nil))))
          · repeat (first | exact .all | exact .nil | refine Has.own (by repeat (first | exact .here | apply Tl.past | apply Tl.there)) ?_ | refine Has.cons (by repeat (first | exact .here | apply Pk.past | apply Pk.there)) ?_)
          · exact fun G hG => by repeat (first | exact hG | refine List.mem_cons_of_mem _ ?_)
          · exact fun _ _ _ => fun _ _ => trivial
        ·
          try simp only [decide_eq_true_eq, decide_eq_false_iff_not] at ht35
          refine J.skip ?_
          repeat (first | refine JX.next ?_ | refine JX.normal_block ?_)
          repeat refine J.seq ?_
          refine J.plain ?_
          refine JO.t (ob_move rfl) rfl ?_
          refine JO.t (ob_move rfl) rfl ?_
          refine JO.t (ob_buildSlice (cs := [_]) sl_sl_uint8 (by omega) (by omega) (.cons rfl .nil) rfl rfl rfl) rfl ?_
          refine JO.apP [by_ s i] ap_sl_uint8 bC_len (by repeat (first | exact .here | apply Cx.past | apply Cx.there)) hG rfl rfl (fun L => src_new un_sl_uint8 rfl rfl) (by simp) (by simp; omega) (by simp; omega) rfl (fun st1 cp1 hG1 => ?_)
          try dsimp only
          refine JO.t (ob_assign rfl) rfl ?_
          refine JO.nil ?_
          repeat (first | refine JX.next ?_ | refine JX.normal_block ?_)
          refine J.sel [0, 3, 4, 5] (.cons rfl (.cons rfl (.cons rfl (.cons rfl .nil)))) ?_
          repeat refine J.seq ?_
          refine J.plain ?_
          refine JO.t (ob_move rfl) rfl ?_
          refine JO.t (ob_addc (cc := ((i + 1 : Nat) : Int)) rfl rfl (by omega) (by omega) (by omega)) rfl ?_
          refine JO.t (ob_assign rfl) rfl ?_
          refine JO.nil ?_
          repeat refine JX.normal_block ?_
          refine JX.roundG (x := ⟨i, q, acc, st, cp⟩) (i + 1, q, acc ++ [by_ s i], st1, cp1) ?_ ?_ [0, 3, 4, 5] ?_ ?_ ?_ ?_
          · exact ⟨by omega, case_next (by omega) (flip_n (show (((by_ s i).toNat : Int) == 39) = false from ht23)) (by unfold lowC; rw [if_neg (show ¬ (!q && capB (by_ s i)) = true by rw [capB, ← Bool.and_assoc]; intro h9; exact absurd (h9.symm.trans ht35) (by decide))]) hx, hG1, by simp; omega⟩
          · exact (by simp only; omega)
          · exact (.cons rfl (.cons rfl (.cons rfl (.cons rfl .nil))))
          · repeat (first | exact .all | exact .nil | refine Has.own (by repeat (first | exact .here | apply Tl.past | apply Tl.there)) ?_ | refine Has.cons (by repeat (first | exact .here | apply Pk.past | apply Pk.there)) ?_)
          · exact fun G hG => by repeat (first | exact hG | refine List.mem_cons_of_mem _ ?_)
          · exact fun _ _ _ => fun _ _ => trivial
    ·
      try simp only [decide_eq_true_eq, decide_eq_false_iff_not] at ht16
      repeat refine J.seq ?_
      refine J.exit ?_
      repeat (first | refine JX.hit ?_ | refine JX.miss rfl ?_ | refine JX.exit_pass ?_)
      repeat (first | refine JX.next ?_ | refine JX.normal_block ?_)
      have hacc : acc = caseL false s.data.toList := by rw [← hx, dr_nil (by omega)]; simp [caseL]
      refine J.freezeO bC_len hG (e := ty_uint8) (by repeat (first | exact .here | apply Tl.past | apply Tl.there)) (fun _ h => h) rfl rfl ?_
      obtain ⟨cap2, hso⟩ := sliceO_ad hG
      rw [hso]
      repeat refine J.seq ?_
      refine J.plain ?_
      refine JO.t (ob_move rfl) rfl ?_
      refine JO.t (ob_callF rfl (c_lex_All s) (by simp) (.one rfl .nil)) rfl ?_
      refine JO.t (ob_move rfl) rfl ?_
      refine JO.t (ob_extract0 rfl) rfl ?_
      refine JO.t (ob_extract1 rfl) rfl ?_
      refine JO.t (ob_assign rfl) rfl ?_
      refine JO.t (ob_assign rfl) rfl ?_
      refine JO.nil ?_
      repeat (first | refine JX.next ?_ | refine JX.normal_block ?_)
      refine J.sel [3, 7, 8] (.cons rfl (.cons rfl (.cons rfl .nil))) ?_
      repeat refine J.seq ?_
      refine J.plain ?_
      refine JO.t (ob_move rfl) rfl ?_
      refine JO.t (ob_str un_sl_uint8 un_uint8 un_string rfl (by repeat (first | exact List.mem_cons_self | apply List.mem_cons_of_mem))) rfl ?_
      refine JO.t (ob_callF rfl (c_lex_All (bl acc)) (by simp) (.one rfl .nil)) rfl ?_
      refine JO.t (ob_move rfl) rfl ?_
      refine JO.t (ob_extract0 rfl) rfl ?_
      refine JO.t (ob_extract1 rfl) rfl ?_
      refine JO.t (ob_assign rfl) rfl ?_
      refine JO.t (ob_assign rfl) rfl ?_
      refine JO.nil ?_
      repeat (first | refine JX.next ?_ | refine JX.normal_block ?_)
      refine J.sel [7, 8, 9, 10] (.cons rfl (.cons rfl (.cons rfl (.cons rfl .nil)))) ?_
      repeat refine J.seq ?_
      refine J.reg0 hmx (by kernel_rfl) (by kernel_rfl) ?_
      refine RT.t (ob_move rfl) ?_
      refine RT.t (ob_move rfl) ?_
      refine RT.t (ob_eql rfl rfl) ?_
      refine RT.t (ob_move rfl) ?_
      refine RT.g rfl rfl rfl (fun hg => ob_move (.inl rfl)) ?_
      refine RT.g rfl rfl rfl (fun hg => ob_move (.inl rfl)) ?_
      refine RT.g rfl rfl rfl (fun hg => ob_call (.inl rfl) (c_ref09_Same (lexL s.data.toList).1 (lexL (bl acc).data.toList).1 (by have := lexL_len s.data.toList; omega)) (.one (.inr ⟨_, rfl, fun h => h⟩) (.one (.inr ⟨_, rfl, fun h => h⟩) .nil))) ?_
      refine RT.t (ob_pickAnd rfl rfl rfl id) ?_
      refine RT.t (ob_assign rfl) ?_
      refine RT.nil ?_
      refine FinS.nil0 ?_
      repeat (first | refine JX.next ?_ | refine JX.normal_block ?_)
      refine J.sel [2] (.cons rfl .nil) ?_
      repeat refine J.seq ?_
      refine J.ret ?_
      repeat (first | refine JX.ret_pass ?_ | refine JX.ret_block ?_)
      exact JX.ret1is rfl rfl (by rw [bl_list, hacc, law_case, sameT_refl]; simp)
end Go.Proofs.YtjjgckmdfblmgaaDoor
