/- What stops, and what is not looked at: what the statement does. No condition. -/
import Derived.Test.YtibbnimcnepggaaXLS
import Derived.Test.YtibbnimcnepggaaXVc21
set_option maxRecDepth 20000
namespace Go.Proofs.Ytibbnimcnepggaa
open Go Go.Vc
theorem apValues : ApTy Try.prog ty_sl_api_Value ty_api_Value 3 32 := ⟨by kernel_rfl, by kernel_rfl⟩
theorem hE0 : ∀ E v w, (Ty.newSl (.cells #[] ty_api_Value (0, 0)) 0 0).p E v w → ∃ a, v = .slice a 0 0 := fun E v w h => by
  obtain ⟨b, e, _⟩ := h
  exact ⟨_, e⟩
theorem c_law12_ExprStops (vals more : List V3) (x : Ex) (hx : exRng x) (hv : ∀ v ∈ vals, v.rng) (hm : ∀ v ∈ more, v.rng) (hB : vals.length + more.length ≤ 1048576) : CallTy Try.prog f_law12_ExprStops [.rep (ExR x), .rep (RowS vals), .rep (RowS more)] (.is (.bool true)) :=
  CallTy.of (fn := Try.f9) Try.func9 (n := 100) rfl rfl rfl (fun _ _ => by kernel_rfl) fun E W => by
  repeat refine J.seq ?_
  refine J.plain ?_
  refine JO.box rfl rfl fun b3 => ?_
  refine JO.t (ob_assign rfl) rfl ?_
  refine JO.nil ?_
  repeat (first | refine JX.next ?_ | refine JX.normal_block ?_)
  refine J.sel [1, 2, 3] (.cons rfl (.cons rfl (.cons rfl .nil))) ?_
  repeat refine J.seq ?_
  refine J.plain ?_
  refine JO.t (ob_call rfl (c_law12_awake) .nil) rfl ?_
  refine JO.t (ob_not rfl) rfl ?_
  refine JO.nil ?_
  repeat (first | refine JX.next ?_ | refine JX.normal_block ?_)
  refine J.sel [1, 2, 3, 18] (.cons rfl (.cons rfl (.cons rfl (.cons rfl .nil)))) ?_
  repeat refine J.seq ?_
  refine J.cond rfl (fun ht18 => ?_) (fun ht18 => ?_)
  ·
    try simp only [decide_eq_true_eq, decide_eq_false_iff_not] at ht18
    repeat refine J.seq ?_
    refine J.plain ?_
    refine JO.t (ob_assign rfl) rfl ?_
    refine JO.nil ?_
    repeat (first | refine JX.next ?_ | refine JX.normal_block ?_)
    refine J.sel [6] (.cons rfl .nil) ?_
    repeat refine J.seq ?_
    refine J.ret ?_
    repeat (first | refine JX.ret_pass ?_ | refine JX.ret_block ?_)
    exact JX.ret1is rfl rfl (by simp at ht18)
  ·
    try simp only [decide_eq_true_eq, decide_eq_false_iff_not] at ht18
    refine J.skip ?_
    repeat (first | refine JX.next ?_ | refine JX.normal_block ?_)
    repeat refine J.seq ?_
    refine J.plain ?_
    refine JO.t (ob_call rfl (c_law12_num _) (.one rfl .nil)) rfl ?_
    refine JO.t (ob_buildEx1 sl_sl_api_Expr rfl) rfl ?_
    refine JO.t (ob_call rfl (c_law12_node _ _) (.one rfl (.one rfl .nil))) rfl ?_
    refine JO.alloc zo_api_Expr rfl fun b7 => ?_
    refine JO.m (obm_store rfl rfl (by repeat (first | exact .here | apply Upd.there)) (by first | exact cnt_is rfl rfl | exact cnt_ex) (by first | exact cnt_is rfl rfl | exact cnt_ex) ss_api_Expr) (by rfl) ?_
    refine JO.nil ?_
    repeat (first | refine JX.next ?_ | refine JX.normal_block ?_)
    refine J.sel [1, 2, 3, 7] (.cons rfl (.cons rfl (.cons rfl (.cons rfl .nil)))) ?_
    repeat refine J.seq ?_
    refine J.plain ?_
    refine JO.t (ob_call rfl (c_law12_num _) (.one rfl .nil)) rfl ?_
    refine JO.t (ob_buildEx1 sl_sl_api_Expr rfl) rfl ?_
    refine JO.t (ob_call rfl (c_law12_node _ _) (.one rfl (.one rfl .nil))) rfl ?_
    refine JO.alloc zo_api_Expr rfl fun b8 => ?_
    refine JO.m (obm_store rfl rfl (by repeat (first | exact .here | apply Upd.there)) (by first | exact cnt_is rfl rfl | exact cnt_ex) (by first | exact cnt_is rfl rfl | exact cnt_ex) ss_api_Expr) (by rfl) ?_
    refine JO.nil ?_
    repeat (first | refine JX.next ?_ | refine JX.normal_block ?_)
    refine J.sel [1, 2, 3, 7, 8] (.cons rfl (.cons rfl (.cons rfl (.cons rfl (.cons rfl .nil))))) ?_
    repeat refine J.seq ?_
    refine J.plain ?_
    refine JO.t (ob_ldEx sz_api_Expr rfl) rfl ?_
    refine JO.t (ob_ldEx sz_api_Expr rfl) rfl ?_
    refine JO.t (ob_buildEx2 sl_sl_api_Expr rfl rfl) rfl ?_
    refine JO.t (ob_call rfl (c_law12_node _ _) (.one rfl (.one rfl .nil))) rfl ?_
    refine JO.t (ob_move rfl) rfl ?_
    refine JO.t (ob_call rfl (c_expr_Holds _ _) (.one rfl (.one rfl .nil))) rfl ?_
    refine JO.t (ob_move rfl) rfl ?_
    refine JO.t (ob_extract0 rfl) rfl ?_
    refine JO.t (ob_extract1 rfl) rfl ?_
    refine JO.t (ob_assign rfl) rfl ?_
    refine JO.t (ob_assign rfl) rfl ?_
    refine JO.nil ?_
    repeat (first | refine JX.next ?_ | refine JX.normal_block ?_)
    refine J.sel [1, 2, 3, 8, 9, 10] (.cons rfl (.cons rfl (.cons rfl (.cons rfl (.cons rfl (.cons rfl .nil)))))) ?_
    repeat refine J.seq ?_
    refine J.plain ?_
    refine JO.t (ob_ldEx sz_api_Expr rfl) rfl ?_
    refine JO.t (ob_ldEx sz_api_Expr rfl) rfl ?_
    refine JO.t (ob_buildEx2 sl_sl_api_Expr rfl rfl) rfl ?_
    refine JO.t (ob_call rfl (c_law12_node _ _) (.one rfl (.one rfl .nil))) rfl ?_
    refine JO.t (ob_move rfl) rfl ?_
    refine JO.t (ob_call rfl (c_expr_Holds _ _) (.one rfl (.one rfl .nil))) rfl ?_
    refine JO.t (ob_move rfl) rfl ?_
    refine JO.t (ob_extract0 rfl) rfl ?_
    refine JO.t (ob_extract1 rfl) rfl ?_
    refine JO.t (ob_assign rfl) rfl ?_
    refine JO.t (ob_assign rfl) rfl ?_
    refine JO.nil ?_
    repeat (first | refine JX.next ?_ | refine JX.normal_block ?_)
    refine J.sel [1, 2, 3, 9, 10, 11, 12] (.cons rfl (.cons rfl (.cons rfl (.cons rfl (.cons rfl (.cons rfl (.cons rfl .nil))))))) ?_
    repeat refine J.seq ?_
    refine J.reg0 hmx (by kernel_rfl) (by kernel_rfl) ?_
    refine RT.t (ob_move rfl) ?_
    refine RT.t (ob_move rfl) ?_
    refine RT.g rfl rfl rfl (fun hg => ob_move (.inl rfl)) ?_
    refine RT.g rfl rfl rfl (fun hg => ob_neq (.inr ⟨_, rfl, fun h => h⟩) (.inl rfl)) ?_
    refine RT.t (ob_pickOr rfl rfl rfl id) ?_
    refine RT.t (ob_move rfl) ?_
    refine RT.g rfl rfl rfl (fun hg => ob_move (.inl rfl)) ?_
    refine RT.g rfl rfl rfl (fun hg => ob_not (.inr ⟨_, rfl, fun h => h⟩)) ?_
    refine RT.t (ob_pickOr rfl rfl rfl id) ?_
    refine RT.t (ob_move rfl) ?_
    refine RT.g rfl rfl rfl (fun hg => ob_move (.inl rfl)) ?_
    refine RT.g rfl rfl rfl (fun hg => ob_neq (.inr ⟨_, rfl, fun h => h⟩) (.inl rfl)) ?_
    refine RT.t (ob_pickOr rfl rfl rfl id) ?_
    refine RT.nil ?_
    refine FinS.nil0 ?_
    repeat (first | refine JX.next ?_ | refine JX.normal_block ?_)
    refine J.sel [1, 2, 3, 55] (.cons rfl (.cons rfl (.cons rfl (.cons rfl .nil)))) ?_
    repeat refine J.seq ?_
    refine J.cond rfl (fun ht55 => ?_) (fun ht55 => ?_)
    ·
      try simp only [decide_eq_true_eq, decide_eq_false_iff_not] at ht55
      repeat refine J.seq ?_
      refine J.plain ?_
      refine JO.t (ob_assign rfl) rfl ?_
      refine JO.nil ?_
      repeat (first | refine JX.next ?_ | refine JX.normal_block ?_)
      refine J.sel [6] (.cons rfl .nil) ?_
      repeat refine J.seq ?_
      refine J.ret ?_
      repeat (first | refine JX.ret_pass ?_ | refine JX.ret_block ?_)
      exact JX.ret1is rfl rfl (by rw [law_stop1 hv hx] at ht55; cases ht55)
    ·
      try simp only [decide_eq_true_eq, decide_eq_false_iff_not] at ht55
      refine J.skip ?_
      repeat (first | refine JX.next ?_ | refine JX.normal_block ?_)
      repeat refine J.seq ?_
      refine J.plain ?_
      refine JO.t (ob_ldEx sz_api_Expr rfl) rfl ?_
      refine JO.t (ob_move rfl) rfl ?_
      refine JO.t (ob_call rfl (c_expr_Eval _ _) (.one rfl (.one rfl .nil))) rfl ?_
      refine JO.t (ob_move rfl) rfl ?_
      refine JO.t (ob_extract0 rfl) rfl ?_
      refine JO.t (ob_extract1 rfl) rfl ?_
      refine JO.alloc zo_api_Value rfl fun b13 => ?_
      refine JO.m (obm_store rfl rfl (by repeat (first | exact .here | apply Upd.there)) (by first | exact cnt_is rfl rfl | exact cnt_ex) (by first | exact cnt_is rfl rfl | exact cnt_ex) ss_api_Value) (by rfl) ?_
      refine JO.t (ob_assign rfl) rfl ?_
      refine JO.nil ?_
      repeat (first | refine JX.next ?_ | refine JX.normal_block ?_)
      refine J.sel [1, 2, 3, 10, 13] (.cons rfl (.cons rfl (.cons rfl (.cons rfl (.cons rfl .nil))))) ?_
      refine J.cutS (K1 := [(14, .rep (RowS (vals ++ more))), (1, .rep (RowS vals)), (3, .is (.pointer (some ⟨b3, 0, none⟩))), (10, .is (.int .i64 (evalF vals x).2)), (13, .is (.pointer (some ⟨b13, 0, none⟩)))]) ?_ ?_
      · refine J.plain ?_
        refine JO.t (ob_buildSlice0 sl_sl_api_Value) rfl ?_
        refine JO.t (ob_move rfl) rfl ?_
        refine JO.ap0 apValues rfl hE0 rfl (src_row un_sl_api_Value) (by omega) (by omega) rfl (fun h0 a => ?_) (fun h0 b' cap' cs' g1 g2 g3 => ?_)
        · have hv0 : vals = [] := List.length_eq_zero_iff.1 h0
          subst hv0
          refine JO.t (ob_move rfl) rfl ?_
          refine JO.ap0 apValues rfl (fun E v w h => ⟨a, h⟩) rfl (src_row un_sl_api_Value) (by omega) (by omega) rfl (fun h0 a => ?_) (fun h0 b' cap' cs' g1 g2 g3 => ?_)
          · have hm0 : more = [] := List.length_eq_zero_iff.1 h0
            subst hm0
            refine JO.t (ob_assign rfl) rfl ?_
            refine JO.nil ?_
            exact JX.rowNone (d := 14) rfl [1, 3, 10, 13] (.cons rfl (.cons rfl (.cons rfl (.cons rfl .nil))))
          · refine JO.t (ob_assign rfl) rfl ?_
            refine JO.nil ?_
            exact JX.rowOwn (d := 14) (fun _ h => h) rfl rfl g3 rfl rfl [1, 3, 10, 13] (.cons rfl (.cons rfl (.cons rfl (.cons rfl .nil))))
        · refine JO.t (ob_move rfl) rfl ?_
          refine JO.ap apValues rfl rfl (src_row un_sl_api_Value) g1 g2 (by omega) (by omega) rfl (fun b'' cap'' cs'' k1 k2 k3 => ?_)
          refine JO.t (ob_assign rfl) rfl ?_
          refine JO.nil ?_
          exact JX.rowOwn (d := 14) (fun _ h => h) rfl (by simp) (by rw [k3, g3, List.flatMap_append]) rfl rfl [1, 3, 10, 13] (.cons rfl (.cons rfl (.cons rfl (.cons rfl .nil))))
      refine J.sel [1, 3, 10, 13, 14] (.cons rfl (.cons rfl (.cons rfl (.cons rfl (.cons rfl .nil))))) ?_
      repeat refine J.seq ?_
      refine J.plain ?_
      refine JO.t (ob_ldEx sz_api_Expr rfl) rfl ?_
      refine JO.t (ob_move rfl) rfl ?_
      refine JO.t (ob_call rfl (c_expr_Eval _ _) (.one rfl (.one rfl .nil))) rfl ?_
      refine JO.t (ob_move rfl) rfl ?_
      refine JO.t (ob_extract0 rfl) rfl ?_
      refine JO.t (ob_extract1 rfl) rfl ?_
      refine JO.alloc zo_api_Value rfl fun b15 => ?_
      refine JO.m (obm_store rfl rfl (by repeat (first | exact .here | apply Upd.there)) (by first | exact cnt_is rfl rfl | exact cnt_ex) (by first | exact cnt_is rfl rfl | exact cnt_ex) ss_api_Value) (by rfl) ?_
      refine JO.t (ob_assign rfl) rfl ?_
      refine JO.nil ?_
      repeat (first | refine JX.next ?_ | refine JX.normal_block ?_)
      refine J.sel [1, 10, 12, 13, 14, 15] (.cons rfl (.cons rfl (.cons rfl (.cons rfl (.cons rfl (.cons rfl .nil)))))) ?_
      repeat refine J.seq ?_
      refine J.plain ?_
      refine JO.t (ob_assign rfl) rfl ?_
      refine JO.nil ?_
      repeat (first | refine JX.next ?_ | refine JX.normal_block ?_)
      refine J.sel [1, 10, 12, 13, 14, 15, 16] (.cons rfl (.cons rfl (.cons rfl (.cons rfl (.cons rfl (.cons rfl (.cons rfl .nil))))))) ?_
      refine J.openRow (s := 1) rfl (fun ra rl rc rb ro hrl hra => ?_)
      refine J.openRow (s := 14) rfl (fun fa fl fc fb fo hfl hfa => ?_)
      subst hrl
      repeat refine J.seq ?_
      refine J.block ?_
      repeat refine J.seq ?_
      refine J.loopF (α := Nat) (fun s => [(1, _), (10, _), (12, _), (13, _), (14, _), (15, _), (16, .is (.int .i64 (s : Nat)))]) (fun s => s ≤ vals.length) (fun s => vals.length - s) 0 [1, 10, 12, 13, 14, 15, 16] (.cons rfl (.cons rfl (.cons rfl (.cons rfl (.cons rfl (.cons rfl (.cons rfl .nil))))))) (by omega) fun i hi => ?_
      repeat refine J.seq ?_
      refine J.plain ?_
      refine JO.t (ob_move rfl) rfl ?_
      refine JO.t (ob_move rfl) rfl ?_
      refine JO.t (ob_len un_sl_api_Value rfl) rfl ?_
      refine JO.t (ob_lss rfl rfl) rfl ?_
      refine JO.nil ?_
      repeat (first | refine JX.next ?_ | refine JX.normal_block ?_)
      refine J.sel [1, 10, 12, 13, 14, 15, 16, 76] (.cons rfl (.cons rfl (.cons rfl (.cons rfl (.cons rfl (.cons rfl (.cons rfl (.cons rfl .nil)))))))) ?_
      repeat refine J.seq ?_
      refine J.cond rfl (fun ht76 => ?_) (fun ht76 => ?_)
      ·
        try simp only [decide_eq_true_eq, decide_eq_false_iff_not] at ht76
        refine J.skip ?_
        repeat (first | refine JX.next ?_ | refine JX.normal_block ?_)
        repeat refine J.seq ?_
        refine J.block ?_
        repeat refine J.seq ?_
        refine J.reg0 hmx (by kernel_rfl) (by kernel_rfl) ?_
        refine RT.t (ob_move rfl) ?_
        refine RT.t (ob_move rfl) ?_
        refine RT.t (ob_indexAddr el_sl_api_Value rfl (hfa (by simp at hfl; omega)) rfl (by omega) (by simp at hfl; omega)) ?_
        refine RT.t (ob_loadVal (i := i) (v := v3at (vals ++ more) i) sz_api_Value rfl List.mem_cons_self (hfa (by simp at hfl; omega)) (v3at_get (sl := (i : Int)) (by omega) (by simp; omega)) (by omega)) ?_
        refine RT.t (ob_move rfl) ?_
        refine RT.t (ob_move rfl) ?_
        refine RT.t (ob_indexAddr el_sl_api_Value rfl (hra (by omega)) rfl (by omega) (by omega)) ?_
        refine RT.t (ob_loadVal (i := i) (v := v3at vals i) sz_api_Value rfl (List.mem_cons_of_mem _ (List.mem_cons_of_mem _ List.mem_cons_self)) (hra (by omega)) (v3at_get (sl := (i : Int)) (by omega) (by omega)) (by omega)) ?_
        refine RT.t (ob_vneq veq_api_Value rfl rfl) ?_
        refine RT.nil ?_
        refine FinS.nil0 ?_
        repeat (first | refine JX.next ?_ | refine JX.normal_block ?_)
        refine J.sel [1, 10, 12, 13, 14, 15, 16, 87] (.cons rfl (.cons rfl (.cons rfl (.cons rfl (.cons rfl (.cons rfl (.cons rfl (.cons rfl .nil)))))))) ?_
        repeat refine J.seq ?_
        refine J.cond rfl (fun ht87 => ?_) (fun ht87 => ?_)
        ·
          try simp only [decide_eq_true_eq, decide_eq_false_iff_not] at ht87
          repeat refine J.seq ?_
          refine J.plain ?_
          refine JO.t (ob_assign rfl) rfl ?_
          refine JO.nil ?_
          repeat (first | refine JX.next ?_ | refine JX.normal_block ?_)
          refine J.sel [6] (.cons rfl .nil) ?_
          repeat refine J.seq ?_
          refine J.ret ?_
          repeat (first | refine JX.ret_pass ?_ | refine JX.ret_block ?_)
          exact JX.ret1is rfl rfl (by rw [law_stop3 (by omega)] at ht87; cases ht87)
        ·
          try simp only [decide_eq_true_eq, decide_eq_false_iff_not] at ht87
          refine J.skip ?_
          repeat (first | refine JX.next ?_ | refine JX.normal_block ?_)
          repeat refine J.seq ?_
          refine J.plain ?_
          refine JO.t (ob_move rfl) rfl ?_
          refine JO.t (ob_addc (cc := ((i + 1 : Nat) : Int)) rfl rfl (by omega) (by omega) (by omega)) rfl ?_
          refine JO.t (ob_assign rfl) rfl ?_
          refine JO.nil ?_
          refine JX.roundS (i + 1) ?_ ?_ [1, 10, 12, 13, 14, 15, 16] ?_ ?_ ?_
          · exact (by omega)
          · exact (by omega)
          · exact (.cons rfl (.cons rfl (.cons rfl (.cons rfl (.cons rfl (.cons rfl (.cons rfl .nil)))))))
          · repeat (first | exact .slnil | apply List.Sublist.cons_cons | apply List.Sublist.cons)
          · repeat (first | exact .slnil | apply List.Sublist.cons_cons | apply List.Sublist.cons)
      ·
        try simp only [decide_eq_true_eq, decide_eq_false_iff_not] at ht76
        repeat refine J.seq ?_
        refine J.exit ?_
        repeat (first | refine JX.hit ?_ | refine JX.miss rfl ?_ | refine JX.exit_pass ?_)
        repeat (first | refine JX.next ?_ | refine JX.normal_block ?_)
        repeat refine J.seq ?_
        refine J.reg0 hmx (by kernel_rfl) (by kernel_rfl) ?_
        refine RT.t (ob_move rfl) ?_
        refine RT.t (ob_eql rfl rfl) ?_
        refine RT.t (ob_move rfl) ?_
        refine RT.g rfl rfl rfl (fun hg => ob_move (.inl rfl)) ?_
        refine RT.g rfl rfl rfl (fun hg => ob_move (.inl rfl)) ?_
        refine RT.g rfl rfl rfl (fun hg => ob_eql (.inr ⟨_, rfl, fun h => h⟩) (.inr ⟨_, rfl, fun h => h⟩)) ?_
        refine RT.g rfl rfl rfl (fun hg => ob_move (.inr ⟨_, rfl, fun h => h⟩)) ?_
        refine RT.gg rfl rfl rfl (fun hg => (ob_ldN (cs := [_, _, _]) sz_api_Value (.inl rfl) rfl rfl)) ?_
        refine RT.gg rfl rfl rfl (fun hg => (ob_ldN (cs := [_, _, _]) sz_api_Value (.inl rfl) rfl rfl)) ?_
        refine RT.gg rfl rfl rfl (fun hg => (ob_veq veq_api_Value (.inr ⟨_, rfl, fun h => h⟩) (.inr ⟨_, rfl, fun h => h⟩))) ?_
        refine RT.g rfl rfl rfl (fun hg => ob_pickAnd (.inr ⟨_, rfl, fun h => h⟩) (.inl rfl) (.inl rfl) (fun h => ⟨hg, h⟩)) ?_
        refine RT.t (ob_pickOr rfl rfl rfl id) ?_
        refine RT.t (ob_assign rfl) ?_
        refine RT.nil ?_
        refine FinS.nil0 ?_
        repeat (first | refine JX.next ?_ | refine JX.normal_block ?_)
        refine J.sel [6] (.cons rfl .nil) ?_
        repeat refine J.seq ?_
        refine J.ret ?_
        repeat (first | refine JX.ret_pass ?_ | refine JX.ret_block ?_)
        exact JX.ret1is rfl rfl (congrArg Value.bool (law_stop2 hv hm hx))
end Go.Proofs.Ytibbnimcnepggaa
