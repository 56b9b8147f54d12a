/- Two texts with a line feed between them: what the statement does. No condition. -/
import Derived.Test.YtjjgckmdfblmgaaDoorXLP
import Derived.Test.YtjjgckmdfblmgaaDoorXG4
set_option maxRecDepth 20000
namespace Go.Proofs.YtjjgckmdfblmgaaDoor
open Go Go.Vc
abbrev nl : ByteArray := ⟨#[10]⟩
theorem c_sum (s t : ByteArray) : CallF Tryd.prog f_lex_All [GF] [.is (.string ((s ++ nl) ++ t))] (.tup2 (.rep (SlG T3.cells 3 (lexL (s.data.toList ++ 10 :: t.data.toList)).1)) (.is (.int .i64 (lexL (s.data.toList ++ 10 :: t.data.toList)).2))) := by
  have h := c_lex_All ((s ++ nl) ++ t)
  have e : ((s ++ nl) ++ t).data.toList = s.data.toList ++ 10 :: t.data.toList := by
    rw [app_list, app_list, List.append_assoc]
    rfl
  rw [e] at h
  exact h
theorem one3 (x : T3) : ∀ u ∈ x.cells, u.oneCell' = true := fun u hu => by
  simp only [T3.cells, List.mem_cons, List.not_mem_nil, or_false] at hu
  rcases hu with rfl | rfl | rfl <;> rfl
theorem sum_len (s t : ByteArray) : s.data.toList.length + t.data.toList.length + 1 = s.size + t.size + 1 := by rw [len_bytes, len_bytes]
theorem c_law09_LexParts (s t : ByteArray) (hs : s.size ≤ 140737488351232) (ht : t.size ≤ 140737488351232) : CallF Tryd.prog f_law09_LexParts [GF] [.is (.string s), .is (.string t)] (.is (.bool true)) :=
CallF.of (fn := Tryd.f5) Tryd.func5 (n := 67) rfl rfl rfl (fun _ _ => by kernel_rfl) fun E W => by
  repeat refine J.seq ?_
  refine J.plain ?_
  refine JO.t (ob_assign rfl) rfl ?_
  refine JO.nil ?_
  repeat (first | refine JX.next ?_ | refine JX.normal_block ?_)
  refine J.sel [0, 1] (.cons rfl (.cons rfl .nil)) ?_
  repeat refine J.seq ?_
  refine J.plain ?_
  refine JO.t (ob_callF rfl (c_law09_awake) (by simp) .nil) rfl ?_
  refine JO.t (ob_not rfl) rfl ?_
  refine JO.nil ?_
  repeat (first | refine JX.next ?_ | refine JX.normal_block ?_)
  refine J.sel [0, 1, 12] (.cons rfl (.cons rfl (.cons rfl .nil))) ?_
  repeat refine J.seq ?_
  refine J.cond rfl (fun ht12 => ?_) (fun ht12 => ?_)
  ·
    try simp only [decide_eq_true_eq, decide_eq_false_iff_not] at ht12
    repeat refine J.seq ?_
    refine J.plain ?_
    refine JO.t (ob_assign rfl) rfl ?_
    refine JO.nil ?_
    repeat (first | refine JX.next ?_ | refine JX.normal_block ?_)
    refine J.sel [4] (.cons rfl .nil) ?_
    repeat refine J.seq ?_
    refine J.ret ?_
    repeat (first | refine JX.ret_pass ?_ | refine JX.ret_block ?_)
    exact JX.ret1is rfl rfl (by simp at ht12)
  ·
    try simp only [decide_eq_true_eq, decide_eq_false_iff_not] at ht12
    refine J.skip ?_
    repeat (first | refine JX.next ?_ | refine JX.normal_block ?_)
    repeat refine J.seq ?_
    refine J.plain ?_
    refine JO.t (ob_move rfl) rfl ?_
    refine JO.t (ob_callF rfl (c_lex_All s) (by simp) (.one rfl .nil)) rfl ?_
    refine JO.t (ob_move rfl) rfl ?_
    refine JO.t (ob_extract0 rfl) rfl ?_
    refine JO.t (ob_extract1 rfl) rfl ?_
    refine JO.t (ob_assign rfl) rfl ?_
    refine JO.t (ob_assign rfl) rfl ?_
    refine JO.nil ?_
    repeat (first | refine JX.next ?_ | refine JX.normal_block ?_)
    refine J.sel [0, 1, 5, 6] (.cons rfl (.cons rfl (.cons rfl (.cons rfl .nil)))) ?_
    repeat refine J.seq ?_
    refine J.plain ?_
    refine JO.t (ob_move rfl) rfl ?_
    refine JO.t (ob_callF rfl (c_lex_All t) (by simp) (.one rfl .nil)) rfl ?_
    refine JO.t (ob_move rfl) rfl ?_
    refine JO.t (ob_extract0 rfl) rfl ?_
    refine JO.t (ob_extract1 rfl) rfl ?_
    refine JO.t (ob_assign rfl) rfl ?_
    refine JO.t (ob_assign rfl) rfl ?_
    refine JO.nil ?_
    repeat (first | refine JX.next ?_ | refine JX.normal_block ?_)
    refine J.sel [0, 1, 5, 6, 7, 8] (.cons rfl (.cons rfl (.cons rfl (.cons rfl (.cons rfl (.cons rfl .nil)))))) ?_
    repeat refine J.seq ?_
    refine J.plain ?_
    refine JO.t (ob_move rfl) rfl ?_
    refine JO.t (ob_sadd rfl rfl (by have : nl.size = 1 := rfl; show s.size + nl.size ≤ 9223372036854775807; omega)) rfl ?_
    refine JO.t (ob_move rfl) rfl ?_
    refine JO.t (ob_sadd rfl rfl (by have : nl.size = 1 := rfl; show (s ++ nl).size + t.size ≤ 9223372036854775807; rw [ByteArray.size_append]; omega)) rfl ?_
    refine JO.t (ob_callF rfl (c_sum s t) (by simp) (.one rfl .nil)) rfl ?_
    refine JO.t (ob_move rfl) rfl ?_
    refine JO.t (ob_extract0 rfl) rfl ?_
    refine JO.t (ob_extract1 rfl) rfl ?_
    refine JO.t (ob_assign rfl) rfl ?_
    refine JO.t (ob_assign rfl) rfl ?_
    refine JO.nil ?_
    repeat (first | refine JX.next ?_ | refine JX.normal_block ?_)
    refine J.sel [0, 1, 5, 6, 7, 8, 9, 10] (.cons rfl (.cons rfl (.cons rfl (.cons rfl (.cons rfl (.cons rfl (.cons rfl (.cons rfl .nil)))))))) ?_
    repeat refine J.seq ?_
    refine J.plain ?_
    refine JO.t (ob_move rfl) rfl ?_
    refine JO.t (ob_slen un_string rfl) rfl ?_
    refine JO.t (ob_move rfl) rfl ?_
    refine JO.t (ob_slen un_string rfl) rfl ?_
    refine JO.t (ob_addc (cc := ((s.size + t.size : Nat) : Int)) rfl rfl (by omega) (by omega) (by omega)) rfl ?_
    refine JO.t (ob_addc (cc := ((s.size + t.size + 1 : Nat) : Int)) rfl rfl (by omega) (by omega) (by omega)) rfl ?_
    refine JO.t (ob_gtr rfl rfl) rfl ?_
    refine JO.nil ?_
    repeat (first | refine JX.next ?_ | refine JX.normal_block ?_)
    refine J.sel [5, 6, 7, 8, 9, 10, 37] (.cons rfl (.cons rfl (.cons rfl (.cons rfl (.cons rfl (.cons rfl (.cons rfl .nil))))))) ?_
    repeat refine J.seq ?_
    refine J.cond rfl (fun ht37 => ?_) (fun ht37 => ?_)
    ·
      try simp only [decide_eq_true_eq, decide_eq_false_iff_not] at ht37
      repeat refine J.seq ?_
      refine J.plain ?_
      refine JO.t (ob_move rfl) rfl ?_
      refine JO.t (ob_eql rfl rfl) rfl ?_
      refine JO.t (ob_assign rfl) rfl ?_
      refine JO.nil ?_
      repeat (first | refine JX.next ?_ | refine JX.normal_block ?_)
      refine J.sel [4] (.cons rfl .nil) ?_
      repeat refine J.seq ?_
      refine J.ret ?_
      repeat (first | refine JX.ret_pass ?_ | refine JX.ret_block ?_)
      exact JX.ret1is rfl rfl (by rw [parts_big (by rw [sum_len]; omega)]; rfl)
    ·
      try simp only [decide_eq_true_eq, decide_eq_false_iff_not] at ht37
      refine J.skip ?_
      repeat (first | refine JX.next ?_ | refine JX.normal_block ?_)
      repeat refine J.seq ?_
      refine J.plain ?_
      refine JO.t (ob_move rfl) rfl ?_
      refine JO.t (ob_neq rfl rfl) rfl ?_
      refine JO.nil ?_
      repeat (first | refine JX.next ?_ | refine JX.normal_block ?_)
      refine J.sel [5, 7, 8, 9, 10, 41] (.cons rfl (.cons rfl (.cons rfl (.cons rfl (.cons rfl (.cons rfl .nil)))))) ?_
      repeat refine J.seq ?_
      refine J.cond rfl (fun ht41 => ?_) (fun ht41 => ?_)
      ·
        try simp only [decide_eq_true_eq, decide_eq_false_iff_not] at ht41
        repeat refine J.seq ?_
        refine J.plain ?_
        refine JO.t (ob_assign rfl) rfl ?_
        refine JO.nil ?_
        repeat (first | refine JX.next ?_ | refine JX.normal_block ?_)
        refine J.sel [4] (.cons rfl .nil) ?_
        repeat refine J.seq ?_
        refine J.ret ?_
        repeat (first | refine JX.ret_pass ?_ | refine JX.ret_block ?_)
        exact JX.ret1is rfl rfl (by rfl)
      ·
        try simp only [decide_eq_true_eq, decide_eq_false_iff_not] at ht41
        refine J.skip ?_
        repeat (first | refine JX.next ?_ | refine JX.normal_block ?_)
        repeat refine J.seq ?_
        have hla := lexL_len s.data.toList
        have hlb := lexL_len t.data.toList
        obtain ⟨hL1, hL2, hL3⟩ := parts_law (l := s.data.toList) (k := t.data.toList) (by rw [sum_len]; omega) (by simpa using ht41)
        have hA : ((lexL (s.data.toList ++ 10 :: t.data.toList)).2 == (lexL t.data.toList).2) = true := by rw [hL1]; simp
        refine J.openSl (s := 9) rfl (fun ca cl cc cb co hcl hca => ?_)
        subst hcl
        cases hf : ((lexL t.data.toList).2 == 0)
        · have hC0 : (((lexL (s.data.toList ++ 10 :: t.data.toList)).1.length : Int) == 0) = true := by rw [hL2 (by simpa using hf)]; rfl
          refine J.plain ?_
          refine JO.t (ob_move rfl) rfl ?_
          refine JO.t (ob_move rfl) rfl ?_
          refine JO.t (ob_eqv (v := true) rfl rfl hA) rfl ?_
          refine JO.t (ob_move rfl) rfl ?_
          refine JO.gDo (i := 3) rfl rfl rfl rfl ?_
          refine JO.t (ob_move rfl) rfl ?_
          refine JO.gDo (i := 3) rfl rfl rfl rfl ?_
          refine JO.t (ob_neqv (v := true) rfl rfl (by rw [hf]; rfl)) rfl ?_
          refine JO.gDo (i := 3) rfl rfl rfl rfl ?_
          refine JO.t (ob_move rfl) rfl ?_
          refine JO.gDo (i := 6) rfl rfl rfl rfl ?_
          refine JO.t (ob_move rfl) rfl ?_
          refine JO.gDo (i := 6) rfl rfl rfl rfl ?_
          refine JO.t (ob_len un_sl_api_Token rfl) rfl ?_
          refine JO.gDo (i := 6) rfl rfl rfl rfl ?_
          refine JO.t (ob_eqv (v := true) rfl rfl hC0) rfl ?_
          refine JO.gDo (i := 3) rfl rfl rfl rfl ?_
          refine JO.t (ob_pickT rfl rfl) rfl ?_
          refine JO.gDo (i := 3) rfl rfl rfl rfl ?_
          refine JO.t (ob_move rfl) rfl ?_
          refine JO.gSkip (i := 11) rfl rfl rfl rfl ?_
          refine JO.gSkip (i := 11) rfl rfl rfl rfl ?_
          refine JO.gSkip (i := 11) rfl rfl rfl rfl ?_
          refine JO.gSkipU (i := 14) rfl rfl rfl rfl ?_
          refine JO.gSkipU (i := 14) rfl rfl rfl rfl ?_
          refine JO.gSkipU (i := 14) rfl rfl rfl rfl ?_
          refine JO.gSkipU (i := 14) rfl rfl rfl rfl ?_
          refine JO.gSkipU (i := 14) rfl rfl rfl rfl ?_
          refine JO.gSkipU (i := 14) rfl rfl rfl rfl ?_
          refine JO.gSkipU (i := 14) rfl rfl rfl rfl ?_
          refine JO.gSkip (i := 11) rfl rfl rfl rfl ?_
          refine JO.gDo (i := 3) rfl rfl rfl rfl ?_
          refine JO.t (ob_pickT rfl rfl) rfl ?_
          refine JO.t (ob_pickT rfl rfl) rfl ?_
          refine JO.t (ob_assign rfl) rfl ?_
          refine JO.nil ?_
          repeat (first | refine JX.next ?_ | refine JX.normal_block ?_)
          refine J.sel [4] (.cons rfl .nil) ?_
          repeat refine J.seq ?_
          refine J.ret ?_
          repeat (first | refine JX.ret_pass ?_ | refine JX.ret_block ?_)
          exact JX.ret1is rfl rfl rfl
        · have hcc : (lexL (s.data.toList ++ 10 :: t.data.toList)).1 = (lexL s.data.toList).1 ++ (lexL t.data.toList).1 := hL3 (by simpa using hf)
          refine J.plain ?_
          refine JO.t (ob_move rfl) rfl ?_
          refine JO.t (ob_move rfl) rfl ?_
          refine JO.t (ob_eqv (v := true) rfl rfl hA) rfl ?_
          refine JO.t (ob_move rfl) rfl ?_
          refine JO.gDo (i := 3) rfl rfl rfl rfl ?_
          refine JO.t (ob_move rfl) rfl ?_
          refine JO.gDo (i := 3) rfl rfl rfl rfl ?_
          refine JO.t (ob_neqv (v := false) rfl rfl (by rw [hf]; rfl)) rfl ?_
          refine JO.gDo (i := 3) rfl rfl rfl rfl ?_
          refine JO.t (ob_move rfl) rfl ?_
          refine JO.gSkip (i := 6) rfl rfl rfl rfl ?_
          refine JO.gSkip (i := 6) rfl rfl rfl rfl ?_
          refine JO.gSkip (i := 6) rfl rfl rfl rfl ?_
          refine JO.gDo (i := 3) rfl rfl rfl rfl ?_
          refine JO.t (ob_pickF rfl rfl) rfl ?_
          refine JO.gDo (i := 3) rfl rfl rfl rfl ?_
          refine JO.t (ob_move rfl) rfl ?_
          refine JO.gDo (i := 11) rfl rfl rfl rfl ?_
          refine JO.t (ob_move rfl) rfl ?_
          refine JO.gDo (i := 11) rfl rfl rfl rfl ?_
          refine JO.t (ob_eqv (v := true) rfl rfl hf) rfl ?_
          refine JO.gDo (i := 11) rfl rfl rfl rfl ?_
          refine JO.t (ob_move rfl) rfl ?_
          refine JO.gDo (i := 14) rfl rfl rfl rfl ?_
          refine JO.t (ob_move rfl) rfl ?_
          refine JO.gDo (i := 14) rfl rfl rfl rfl ?_
          refine JO.t (ob_buildSlice0 sl_sl_api_Token) rfl ?_
          refine JO.gDo (i := 14) rfl rfl rfl rfl ?_
          refine JO.t (ob_move rfl) rfl ?_
          refine JO.gDo (i := 14) rfl rfl rfl rfl ?_
          refine JO.ap0 ap_sl_api_Token rfl emptySl rfl (src_sl T3.len (by omega) one3 un_sl_api_Token) (by omega) (by omega) rfl (fun h0 a0 => ?_) (fun h0 b1 cap1 cs1 g1 g2 g3 => ?_)
          · have hA0 : (lexL s.data.toList).1 = [] := List.length_eq_zero_iff.1 h0
            refine JO.gDo (i := 14) rfl rfl rfl rfl ?_
            refine JO.t (ob_move rfl) rfl ?_
            refine JO.gDo (i := 14) rfl rfl rfl rfl ?_
            refine JO.ap0 ap_sl_api_Token rfl (fun E v w h => ⟨a0, h⟩) rfl (src_sl T3.len (by omega) one3 un_sl_api_Token) (by omega) (by omega) rfl (fun h1 a1 => ?_) (fun h1 b2 cap2 cs2 g1 g2 g3 => ?_)
            · have hB0 : (lexL t.data.toList).1 = [] := List.length_eq_zero_iff.1 h1
              have hAB : (lexL s.data.toList).1 ++ (lexL t.data.toList).1 = [] := by rw [hA0, hB0]; rfl
              refine JO.gDo (i := 14) rfl rfl rfl rfl ?_
              refine JO.t (ob_call rfl (c_ref09_Same (lexL (s.data.toList ++ 10 :: t.data.toList)).1 ((lexL s.data.toList).1 ++ (lexL t.data.toList).1) (by have := lexL_len (s.data.toList ++ 10 :: t.data.toList); omega)) (.sub rfl (Sub.slFact (by repeat (first | exact List.mem_cons_self | apply List.mem_cons_of_mem))) (.sub rfl (hAB ▸ Sub.slEmpty) .nil))) rfl ?_
              refine JO.gDo (i := 11) rfl rfl rfl rfl ?_
              refine JO.t (ob_pickT rfl rfl) rfl ?_
              refine JO.gDo (i := 3) rfl rfl rfl rfl ?_
              refine JO.t (ob_pickF rfl rfl) rfl ?_
              refine JO.t (ob_pickT rfl rfl) rfl ?_
              refine JO.t (ob_assign rfl) rfl ?_
              refine JO.nil ?_
              repeat (first | refine JX.next ?_ | refine JX.normal_block ?_)
              refine J.sel [4] (.cons rfl .nil) ?_
              repeat refine J.seq ?_
              refine J.ret ?_
              repeat (first | refine JX.ret_pass ?_ | refine JX.ret_block ?_)
              exact JX.ret1is rfl rfl (by rw [hcc, sameT_refl])
            · have hAB : (lexL s.data.toList).1 ++ (lexL t.data.toList).1 = (lexL t.data.toList).1 := by rw [hA0]; rfl
              refine JO.freeze (fun _ h => h) rfl rfl ?_
              refine JO.fact (RowG T3.cells 3 ((lexL s.data.toList).1 ++ (lexL t.data.toList).1) (some ⟨b2, 0, none⟩) ((lexL s.data.toList).1 ++ (lexL t.data.toList).1).length) (fun E w hF _ => fun w1 hk => row_own T3.len rfl (by rw [hAB]; exact g3) (hF _ List.mem_cons_self w1 hk)) ?_
              refine JO.gDo (i := 14) rfl rfl rfl rfl ?_
              refine JO.t (ob_call rfl (c_ref09_Same (lexL (s.data.toList ++ 10 :: t.data.toList)).1 ((lexL s.data.toList).1 ++ (lexL t.data.toList).1) (by have := lexL_len (s.data.toList ++ 10 :: t.data.toList); omega)) (.sub rfl (Sub.slFact (by repeat (first | exact List.mem_cons_self | apply List.mem_cons_of_mem))) (.sub rfl (by rw [show (lexL t.data.toList).1.length = ((lexL s.data.toList).1 ++ (lexL t.data.toList).1).length by rw [hAB]]; exact Sub.slFact (by repeat (first | exact List.mem_cons_self | apply List.mem_cons_of_mem))) .nil))) rfl ?_
              refine JO.gDo (i := 11) rfl rfl rfl rfl ?_
              refine JO.t (ob_pickT rfl rfl) rfl ?_
              refine JO.gDo (i := 3) rfl rfl rfl rfl ?_
              refine JO.t (ob_pickF rfl rfl) rfl ?_
              refine JO.t (ob_pickT rfl rfl) rfl ?_
              refine JO.t (ob_assign rfl) rfl ?_
              refine JO.nil ?_
              repeat (first | refine JX.next ?_ | refine JX.normal_block ?_)
              refine J.sel [4] (.cons rfl .nil) ?_
              repeat refine J.seq ?_
              refine J.ret ?_
              repeat (first | refine JX.ret_pass ?_ | refine JX.ret_block ?_)
              exact JX.ret1is rfl rfl (by rw [hcc, sameT_refl])
          · skip
            refine JO.gDo (i := 14) rfl rfl rfl rfl ?_
            refine JO.t (ob_move rfl) rfl ?_
            refine JO.gDo (i := 14) rfl rfl rfl rfl ?_
            refine JO.ap ap_sl_api_Token rfl rfl (src_sl T3.len (by omega) one3 un_sl_api_Token) g1 g2 (by omega) (by omega) rfl (fun b2 cap2 cs2 k1 k2 k3 => ?_)
            refine JO.freeze (fun _ h => h) rfl rfl ?_
            refine JO.fact (RowG T3.cells 3 ((lexL s.data.toList).1 ++ (lexL t.data.toList).1) (some ⟨b2, 0, none⟩) ((lexL s.data.toList).1 ++ (lexL t.data.toList).1).length) (fun E w hF _ => fun w1 hk => row_own T3.len rfl (by rw [List.length_append, k3, g3, List.flatMap_append]) (hF _ List.mem_cons_self w1 hk)) ?_
            refine JO.gDo (i := 14) rfl rfl rfl rfl ?_
            refine JO.t (ob_call rfl (c_ref09_Same (lexL (s.data.toList ++ 10 :: t.data.toList)).1 ((lexL s.data.toList).1 ++ (lexL t.data.toList).1) (by have := lexL_len (s.data.toList ++ 10 :: t.data.toList); omega)) (.sub rfl (Sub.slFact (by repeat (first | exact List.mem_cons_self | apply List.mem_cons_of_mem))) (.sub rfl (by rw [show (lexL s.data.toList).1.length + (lexL t.data.toList).1.length = ((lexL s.data.toList).1 ++ (lexL t.data.toList).1).length by rw [List.length_append]]; exact Sub.slFact (by repeat (first | exact List.mem_cons_self | apply List.mem_cons_of_mem))) .nil))) rfl ?_
            refine JO.gDo (i := 11) rfl rfl rfl rfl ?_
            refine JO.t (ob_pickT rfl rfl) rfl ?_
            refine JO.gDo (i := 3) rfl rfl rfl rfl ?_
            refine JO.t (ob_pickF rfl rfl) rfl ?_
            refine JO.t (ob_pickT rfl rfl) rfl ?_
            refine JO.t (ob_assign rfl) rfl ?_
            refine JO.nil ?_
            repeat (first | refine JX.next ?_ | refine JX.normal_block ?_)
            refine J.sel [4] (.cons rfl .nil) ?_
            repeat refine J.seq ?_
            refine J.ret ?_
            repeat (first | refine JX.ret_pass ?_ | refine JX.ret_block ?_)
            exact JX.ret1is rfl rfl (by rw [hcc, sameT_refl])
end Go.Proofs.YtjjgckmdfblmgaaDoor
