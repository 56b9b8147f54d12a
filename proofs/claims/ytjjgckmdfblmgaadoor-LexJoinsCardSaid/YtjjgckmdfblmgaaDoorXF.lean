/- The scanner: all tokens. No condition. -/
import Derived.Test.YtjjgckmdfblmgaaDoorXE
import Derived.Test.YtjjgckmdfblmgaaDoorXG3
set_option maxRecDepth 20000
namespace Go.Proofs.YtjjgckmdfblmgaaDoor
open Go Go.Vc
theorem c_p_lex_scanner_take (s : ByteArray) (n : Nat) (hn : n < s.size) : CallMR Tryd.prog f_p_lex_scanner_take ty_lex_scanner (sv s n) [GF] [] (sv s n) (fun b => .is (takeV (by_ s n) b)) :=
CallMR.of (fn := Tryd.f14) Tryd.func14 (n := 30) rfl rfl rfl (fun _ _ => by kernel_rfl) fun E W b0 => by
  repeat refine J.seq ?_
  refine J.plain ?_
  refine JO.t (ob_assign rfl) rfl ?_
  refine JO.nil ?_
  repeat (first | refine JX.next ?_ | refine JX.normal_block ?_)
  refine J.sel [0] (.cons rfl .nil) ?_
  repeat refine J.seq ?_
  refine J.reg0 hmx (by kernel_rfl) (by kernel_rfl) ?_
  refine RT.t (ob_move rfl) ?_
  refine RT.t (ob_nilCheck rfl) ?_
  refine RT.t (ob_fieldAddr fo_lex_scanner_0 rfl) ?_
  refine RT.t (ob_ld1 sz_string rfl rfl) ?_
  refine RT.t (ob_move rfl) ?_
  refine RT.t (ob_nilCheck rfl) ?_
  refine RT.t (ob_fieldAddr fo_lex_scanner_1 rfl) ?_
  refine RT.t (ob_ld1 sz_int rfl rfl) ?_
  refine RT.t (ob_sindex un_string rfl rfl (by omega) (by omega)) ?_
  refine RT.t (ob_assign rfl) ?_
  refine RT.nil ?_
  refine FinS.nil0 ?_
  repeat (first | refine JX.next ?_ | refine JX.normal_block ?_)
  refine J.sel [0, 3] (.cons rfl (.cons rfl .nil)) ?_
  repeat refine J.seq ?_
  refine J.block ?_
  repeat refine J.seq ?_
  refine J.plain ?_
  refine JO.t (ob_move rfl) rfl ?_
  refine JO.t (ob_call rfl (c_lex_letter (sb s n)) (.one rfl .nil)) rfl ?_
  refine JO.t (ob_assign rfl) rfl ?_
  refine JO.nil ?_
  repeat (first | refine JX.next ?_ | refine JX.normal_block ?_)
  refine J.sel [0, 3, 13] (.cons rfl (.cons rfl (.cons rfl .nil))) ?_
  repeat refine J.seq ?_
  refine J.cond rfl (fun ht13 => ?_) (fun ht13 => ?_)
  ·
    try simp only [decide_eq_true_eq, decide_eq_false_iff_not] at ht13
    repeat refine J.seq ?_
    refine J.plain ?_
    refine JO.t (ob_move rfl) rfl ?_
    refine JO.t (ob_makeFunc (.cons rfl .nil) .nil) rfl ?_
    refine JO.t (ob_assign rfl) rfl ?_
    refine JO.nil ?_
    repeat (first | refine JX.next ?_ | refine JX.normal_block ?_)
    refine J.sel [2] (.cons rfl .nil) ?_
    repeat refine J.seq ?_
    refine J.ret ?_
    repeat (first | refine JX.ret_pass ?_ | refine JX.ret_block ?_)
    exact JX.retM1e rfl HasOwn.mem rfl (by unfold takeV; rw [if_pos (show letB (by_ s n) = true from ht13)]) (by rfl)
  ·
    try simp only [decide_eq_true_eq, decide_eq_false_iff_not] at ht13
    repeat refine J.seq ?_
    refine J.plain ?_
    refine JO.t (ob_move rfl) rfl ?_
    refine JO.t (ob_call rfl (c_lex_digit (sb s n)) (.one rfl .nil)) rfl ?_
    refine JO.t (ob_assign rfl) rfl ?_
    refine JO.nil ?_
    repeat (first | refine JX.next ?_ | refine JX.normal_block ?_)
    refine J.sel [0, 3, 18] (.cons rfl (.cons rfl (.cons rfl .nil))) ?_
    repeat refine J.seq ?_
    refine J.cond rfl (fun ht18 => ?_) (fun ht18 => ?_)
    ·
      try simp only [decide_eq_true_eq, decide_eq_false_iff_not] at ht18
      repeat refine J.seq ?_
      refine J.plain ?_
      refine JO.t (ob_move rfl) rfl ?_
      refine JO.t (ob_makeFunc (.cons rfl .nil) .nil) rfl ?_
      refine JO.t (ob_assign rfl) rfl ?_
      refine JO.nil ?_
      repeat (first | refine JX.next ?_ | refine JX.normal_block ?_)
      refine J.sel [2] (.cons rfl .nil) ?_
      repeat refine J.seq ?_
      refine J.ret ?_
      repeat (first | refine JX.ret_pass ?_ | refine JX.ret_block ?_)
      exact JX.retM1e rfl HasOwn.mem rfl (by unfold takeV; rw [if_neg (show ¬ letB (by_ s n) = true by rw [show letB (by_ s n) = false from ht13]; simp), if_pos (show digB (by_ s n) = true from ht18)]) (by rfl)
    ·
      try simp only [decide_eq_true_eq, decide_eq_false_iff_not] at ht18
      repeat refine J.seq ?_
      refine J.plain ?_
      refine JO.t (ob_move rfl) rfl ?_
      refine JO.t (ob_eql rfl rfl) rfl ?_
      refine JO.t (ob_assign rfl) rfl ?_
      refine JO.nil ?_
      repeat (first | refine JX.next ?_ | refine JX.normal_block ?_)
      refine J.sel [0, 23] (.cons rfl (.cons rfl .nil)) ?_
      repeat refine J.seq ?_
      refine J.cond rfl (fun ht23 => ?_) (fun ht23 => ?_)
      ·
        try simp only [decide_eq_true_eq, decide_eq_false_iff_not] at ht23
        repeat refine J.seq ?_
        refine J.plain ?_
        refine JO.t (ob_move rfl) rfl ?_
        refine JO.t (ob_makeFunc (.cons rfl .nil) .nil) rfl ?_
        refine JO.t (ob_assign rfl) rfl ?_
        refine JO.nil ?_
        repeat (first | refine JX.next ?_ | refine JX.normal_block ?_)
        refine J.sel [2] (.cons rfl .nil) ?_
        repeat refine J.seq ?_
        refine J.ret ?_
        repeat (first | refine JX.ret_pass ?_ | refine JX.ret_block ?_)
        exact JX.retM1e rfl HasOwn.mem rfl (by unfold takeV; rw [if_neg (show ¬ letB (by_ s n) = true by rw [show letB (by_ s n) = false from ht13]; simp), if_neg (show ¬ digB (by_ s n) = true by rw [show digB (by_ s n) = false from ht18]; simp), if_pos (by rw [← q39]; exact ht23)]) (by rfl)
      ·
        try simp only [decide_eq_true_eq, decide_eq_false_iff_not] at ht23
        refine J.skip ?_
        repeat (first | refine JX.next ?_ | refine JX.normal_block ?_)
        repeat refine J.seq ?_
        refine J.plain ?_
        refine JO.t (ob_move rfl) rfl ?_
        refine JO.t (ob_makeFunc (.cons rfl .nil) .nil) rfl ?_
        refine JO.t (ob_assign rfl) rfl ?_
        refine JO.nil ?_
        repeat (first | refine JX.next ?_ | refine JX.normal_block ?_)
        refine J.sel [2] (.cons rfl .nil) ?_
        repeat refine J.seq ?_
        refine J.ret ?_
        repeat (first | refine JX.ret_pass ?_ | refine JX.ret_block ?_)
        exact JX.retM1e rfl HasOwn.mem rfl (by unfold takeV; rw [if_neg (show ¬ letB (by_ s n) = true by rw [show letB (by_ s n) = false from ht13]; simp), if_neg (show ¬ digB (by_ s n) = true by rw [show digB (by_ s n) = false from ht18]; simp), if_neg (by rw [← q39]; rw [show (((by_ s n).toNat : Int) == 39) = false from ht23]; simp)]) (by rfl)
theorem c_lex_All (s : ByteArray) : CallF Tryd.prog f_lex_All [GF] [.is (.string s)] (.tup2 (.rep (SlG T3.cells 3 (lexL s.data.toList).1)) (.is (.int .i64 (lexL s.data.toList).2))) :=
CallF.of (fn := Tryd.f9) Tryd.func9 (n := 39) rfl rfl rfl (fun _ _ => by kernel_rfl) fun E W => by
  repeat refine J.seq ?_
  refine J.plain ?_
  refine JO.t (ob_assign rfl) rfl ?_
  refine JO.t (ob_assign rfl) rfl ?_
  refine JO.nil ?_
  repeat (first | refine JX.next ?_ | refine JX.normal_block ?_)
  refine J.sel [0] (.cons rfl .nil) ?_
  repeat refine J.seq ?_
  refine J.plain ?_
  refine JO.t (ob_move rfl) rfl ?_
  refine JO.t (ob_slen un_string rfl) rfl ?_
  refine JO.t (ob_gtr rfl rfl) rfl ?_
  refine JO.nil ?_
  repeat (first | refine JX.next ?_ | refine JX.normal_block ?_)
  refine J.sel [0, 10] (.cons rfl (.cons rfl .nil)) ?_
  repeat refine J.seq ?_
  refine J.cond rfl (fun ht10 => ?_) (fun ht10 => ?_)
  ·
    try simp only [decide_eq_true_eq, decide_eq_false_iff_not] at ht10
    have hx : lexL s.data.toList = ([], 30) := by unfold lexL; rw [if_pos (by rw [len_bytes]; simpa using ht10)]
    repeat refine J.seq ?_
    refine J.plain ?_
    refine JO.t (ob_assign rfl) rfl ?_
    refine JO.t (ob_assign rfl) rfl ?_
    refine JO.nil ?_
    repeat (first | refine JX.next ?_ | refine JX.normal_block ?_)
    refine J.sel [2, 3] (.cons rfl (.cons rfl .nil)) ?_
    repeat refine J.seq ?_
    refine J.ret ?_
    repeat (first | refine JX.ret_pass ?_ | refine JX.ret_block ?_)
    exact JX.ret2sub rfl rfl rfl (by rw [hx]; exact Sub.slNil) rfl (Sub.isEq (by rw [hx]))
  ·
    try simp only [decide_eq_true_eq, decide_eq_false_iff_not] at ht10
    refine J.skip ?_
    repeat (first | refine JX.next ?_ | refine JX.normal_block ?_)
    have hsz : s.size ≤ 2048 := by have h := ht10; omega
    have h0 : 0 + runN isSp (dr s 0) ≤ s.size := run_le (p := isSp) (Nat.zero_le _)
    repeat refine J.seq ?_
    refine J.plain ?_
    refine JO.t (ob_move rfl) rfl ?_
    refine JO.t (ob_build (cs := [_, _]) sh_lex_scanner (.cons rfl .nil) rfl rfl) rfl ?_
    refine JO.box rfl rfl fun b13 => ?_
    refine JO.t (ob_assign rfl) rfl ?_
    refine JO.nil ?_
    repeat (first | refine JX.next ?_ | refine JX.normal_block ?_)
    refine J.sel [0, 4] (.cons rfl (.cons rfl .nil)) ?_
    repeat refine J.seq ?_
    refine J.plain ?_
    refine JO.t (ob_assign rfl) rfl ?_
    refine JO.nil ?_
    repeat (first | refine JX.next ?_ | refine JX.normal_block ?_)
    refine J.sel [0, 4, 5] (.cons rfl (.cons rfl (.cons rfl .nil))) ?_
    repeat refine J.seq ?_
    refine J.plain ?_
    refine JO.t (ob_move rfl) rfl ?_
    refine JO.md (obm_call rfl rfl (c_p_lex_scanner_space s 0 (by omega) (by omega)) (by repeat (first | exact .here | apply Upd.there)) (by simp) .nil) (by rfl) rfl ?_
    refine JO.nil ?_
    repeat (first | refine JX.next ?_ | refine JX.normal_block ?_)
    refine J.sel [0, 4, 5] (.cons rfl (.cons rfl (.cons rfl .nil))) ?_
    repeat refine J.seq ?_
    refine J.block ?_
    repeat refine J.seq ?_
    refine J.loopG (α := Nat × List T3 × Option (Nat × List Value) × Nat) (fun z => [(0, .is (.string s)), (4, .is (.pointer (some ⟨b13, 0, none⟩))), (5, .is (sliceO z.2.2.1 z.2.1.length z.2.2.2))]) (fun z => ⟨b13, ty_lex_scanner, .is (sv s z.1)⟩ :: ownO z.2.2.1 ty_api_Token []) (fun z => fun _ => True) (fun z => z.1 ≤ s.size ∧ (finA z.2.1 (allA (dr s z.1)) = lexL s.data.toList ∧ runN isSp (dr s z.1) = 0) ∧ Grows T3.cells 3 z.2.1 z.2.2.1 z.2.2.2 ∧ z.2.1.length ≤ z.1) (fun z => s.size - z.1) (0 + runN isSp (dr s 0), [], none, 0) [0, 4, 5] (.cons rfl (.cons rfl (.cons rfl .nil))) rfl (fun _ => trivial) ⟨h0, ⟨lex_start hsz, lex_sp s 0⟩, rfl, by simp⟩ fun ⟨i, xs, st, cp⟩ ⟨hi, ⟨hr, hsp⟩, hG, hal⟩ => ?_
    try dsimp only
    try dsimp only at xs
    try dsimp only at st
    try dsimp only at cp
    try dsimp only at hi
    try dsimp only at hr
    try dsimp only at hsp
    try dsimp only at hG
    try dsimp only at hal
    repeat refine J.seq ?_
    refine J.plain ?_
    refine JO.t (ob_move rfl) rfl ?_
    refine JO.t (ob_nilCheck rfl) rfl ?_
    refine JO.t (ob_fieldAddr fo_lex_scanner_1 rfl) rfl ?_
    refine JO.t (ob_ld1 sz_int rfl rfl) rfl ?_
    refine JO.t (ob_move rfl) rfl ?_
    refine JO.t (ob_slen un_string rfl) rfl ?_
    refine JO.t (ob_lss rfl rfl) rfl ?_
    refine JO.nil ?_
    repeat (first | refine JX.next ?_ | refine JX.normal_block ?_)
    refine J.sel [0, 4, 5, 22] (.cons rfl (.cons rfl (.cons rfl (.cons rfl .nil)))) ?_
    repeat refine J.seq ?_
    refine J.cond rfl (fun ht22 => ?_) (fun ht22 => ?_)
    ·
      try simp only [decide_eq_true_eq, decide_eq_false_iff_not] at ht22
      refine J.skip ?_
      repeat (first | refine JX.next ?_ | refine JX.normal_block ?_)
      repeat refine J.seq ?_
      refine J.block ?_
      have hlt : i < s.size := by omega
      have hle : i + (stepL (dr s i)).2 ≤ s.size := by have := step_le (dr s i); rw [dr_len] at this; omega
      repeat refine J.seq ?_
      refine J.plain ?_
      refine JO.t (ob_move rfl) rfl ?_
      refine JO.md (obm_callR rfl rfl (c_p_lex_scanner_take s i (by omega)) (by repeat (first | exact .here | apply Upd.there)) (by simp) .nil) (by rfl) rfl ?_
      refine JO.md (obm_callV rfl ((take_meth s i (by omega) (by omega) b13)) (by repeat (first | exact .here | apply Upd.there)) (by simp) .nil) (by rfl) rfl ?_
      refine JO.t (ob_move rfl) rfl ?_
      refine JO.t (ob_extract0 rfl) rfl ?_
      refine JO.t (ob_extract1 rfl) rfl ?_
      refine JO.alloc zo_api_Token rfl fun b6 => ?_
      refine JO.m (obm_store rfl rfl (by repeat (first | exact .here | apply Upd.there)) (by first | exact cnt_is rfl rfl | exact cnt_ex) (by first | exact cnt_is rfl rfl | exact cnt_ex | exact cnt_aggO) ss_api_Token) (by rfl) ?_
      refine JO.t (ob_assign rfl) rfl ?_
      refine JO.nil ?_
      repeat (first | refine JX.next ?_ | refine JX.normal_block ?_)
      refine J.sel [0, 4, 5, 6, 7] (.cons rfl (.cons rfl (.cons rfl (.cons rfl (.cons rfl .nil))))) ?_
      repeat refine J.seq ?_
      refine J.plain ?_
      refine JO.t (ob_move rfl) rfl ?_
      refine JO.t (ob_neq rfl rfl) rfl ?_
      refine JO.nil ?_
      repeat (first | refine JX.next ?_ | refine JX.normal_block ?_)
      refine J.sel [0, 4, 5, 6, 7, 32] (.cons rfl (.cons rfl (.cons rfl (.cons rfl (.cons rfl (.cons rfl .nil)))))) ?_
      repeat refine J.seq ?_
      refine J.cond rfl (fun ht32 => ?_) (fun ht32 => ?_)
      ·
        try simp only [decide_eq_true_eq, decide_eq_false_iff_not] at ht32
        have hx := lex_err hlt hsp (by simpa using ht32) hr
        repeat refine J.seq ?_
        refine J.plain ?_
        refine JO.t (ob_move rfl) rfl ?_
        refine JO.t (ob_assign rfl) rfl ?_
        refine JO.t (ob_assign rfl) rfl ?_
        refine JO.nil ?_
        repeat (first | refine JX.next ?_ | refine JX.normal_block ?_)
        refine J.sel [2, 3] (.cons rfl (.cons rfl .nil)) ?_
        repeat refine J.seq ?_
        refine J.ret ?_
        repeat (first | refine JX.ret_pass ?_ | refine JX.ret_block ?_)
        exact JX.ret2sub rfl rfl rfl (by rw [hx]; exact Sub.slNil) rfl (Sub.isEq (by rw [hx]))
      ·
        try simp only [decide_eq_true_eq, decide_eq_false_iff_not] at ht32
        refine J.skip ?_
        repeat (first | refine JX.next ?_ | refine JX.normal_block ?_)
        have he0 : (stepL (dr s i)).1.2 = 0 := by simpa using ht32
        have hp1 : 1 ≤ (stepL (dr s i)).2 := by rw [dr_cons hlt] at he0 ⊢; exact step_pos he0
        repeat refine J.seq ?_
        refine J.plain ?_
        refine JO.t (ob_move rfl) rfl ?_
        refine JO.t (ob_ldN (cs := [_, _, _]) sz_api_Token rfl rfl rfl) rfl ?_
        refine JO.t (ob_buildSlice (cs := [_, _, _]) sl_sl_api_Token (by omega) (by omega) (.cons rfl .nil) rfl rfl rfl) rfl ?_
        refine JO.apP [(stepL (dr s i)).1.1] ap_sl_api_Token T3.len (by repeat (first | exact .here | apply Cx.past | apply Cx.there)) hG rfl rfl (fun L => src_new un_sl_api_Token rfl rfl) (by simp) (by simp; omega) (by simp; omega) rfl (fun st1 cp1 hG1 => ?_)
        try dsimp only
        refine JO.t (ob_assign rfl) rfl ?_
        refine JO.nil ?_
        repeat (first | refine JX.next ?_ | refine JX.normal_block ?_)
        refine J.sel [0, 4, 5] (.cons rfl (.cons rfl (.cons rfl .nil))) ?_
        repeat refine J.seq ?_
        refine J.plain ?_
        refine JO.t (ob_move rfl) rfl ?_
        refine JO.md (obm_call rfl rfl (c_p_lex_scanner_space s (i + (stepL (dr s i)).2) (by omega) (by omega)) (by repeat (first | exact .here | apply Upd.there)) (by simp) .nil) (by rfl) rfl ?_
        refine JO.nil ?_
        repeat refine JX.normal_block ?_
        refine JX.roundG (x := ⟨i, xs, st, cp⟩) (i + (stepL (dr s i)).2 + runN isSp (dr s (i + (stepL (dr s i)).2)), xs ++ [(stepL (dr s i)).1.1], st1, cp1) ?_ ?_ [0, 4, 5] ?_ ?_ ?_ ?_
        · exact ⟨run_le (p := isSp) hle, ⟨lex_next hlt hsp he0 hr, lex_sp s (i + (stepL (dr s i)).2)⟩, hG1, by simp; omega⟩
        · exact (by simp only; omega)
        · exact (.cons rfl (.cons rfl (.cons rfl .nil)))
        · repeat (first | exact .all | exact .nil | refine Has.own (by repeat (first | exact .here | apply Tl.past | apply Tl.there)) ?_ | refine Has.cons (by repeat (first | exact .here | apply Pk.past | apply Pk.there)) ?_)
        · exact fun G hG => by repeat (first | exact hG | refine List.mem_cons_of_mem _ ?_)
        · exact fun _ _ _ => fun _ _ => trivial
    ·
      try simp only [decide_eq_true_eq, decide_eq_false_iff_not] at ht22
      repeat refine J.seq ?_
      refine J.exit ?_
      repeat (first | refine JX.hit ?_ | refine JX.miss rfl ?_ | refine JX.exit_pass ?_)
      repeat (first | refine JX.next ?_ | refine JX.normal_block ?_)
      have hfin : lexL s.data.toList = (xs, 0) := by rw [← hr, dr_nil (by omega)]; simp [finA, allA_nil]
      refine J.freezeO T3.len hG (e := ty_api_Token) (by repeat (first | exact .here | apply Tl.past | apply Tl.there)) (fun _ h => h) rfl rfl ?_
      repeat refine J.seq ?_
      refine J.plain ?_
      refine JO.t (ob_move rfl) rfl ?_
      refine JO.t (ob_assign rfl) rfl ?_
      refine JO.t (ob_assign rfl) rfl ?_
      refine JO.nil ?_
      repeat (first | refine JX.next ?_ | refine JX.normal_block ?_)
      refine J.sel [2, 3] (.cons rfl (.cons rfl .nil)) ?_
      repeat refine J.seq ?_
      refine J.ret ?_
      repeat (first | refine JX.ret_pass ?_ | refine JX.ret_block ?_)
      exact JX.ret2sub rfl rfl rfl (by rw [hfin]; exact Sub.slO hG (by repeat (first | exact List.mem_cons_self | apply List.mem_cons_of_mem))) rfl (Sub.isEq (by rw [hfin]))
end Go.Proofs.YtjjgckmdfblmgaaDoor
