/- NULL on one side: what the statement does. No condition. -/
import Derived.Test.YtibbnimcnepggaaXLN
import Derived.Test.YtibbnimcnepggaaXVc19
set_option maxRecDepth 20000
namespace Go.Proofs.Ytibbnimcnepggaa
open Go Go.Vc
theorem c_law12_ExprNulls (op : Int) (k vk vn : Int) (vs tb nm : ByteArray) (sl : Int) (kids : List Ex) (vals : List V3) (left : Bool) (ho : 0 ≤ op ∧ op < 256) (hx : exRng (.mk k vk vn vs tb nm sl kids)) (hv : ∀ v ∈ vals, v.rng) : CallTy Try.prog f_law12_ExprNulls [.rep (NullR op (.mk k vk vn vs tb nm sl kids) vals left)] (.is (.bool true)) :=
  CallTy.of (fn := Try.f10) Try.func10 (n := 135) rfl rfl rfl (fun _ _ => by kernel_rfl) fun E W => by
  refine J.openNull (s := 0) rfl (fun a len cap ra rl rc => ?_)
  repeat refine J.seq ?_
  refine J.plain ?_
  refine JO.box rfl rfl fun b1 => ?_
  refine JO.t (ob_assign rfl) rfl ?_
  refine JO.nil ?_
  repeat (first | refine JX.next ?_ | refine JX.normal_block ?_)
  refine J.sel [1] (.cons rfl .nil) ?_
  repeat refine J.seq ?_
  refine J.plain ?_
  refine JO.t (ob_call rfl (c_law12_awake) .nil) rfl ?_
  refine JO.t (ob_not rfl) rfl ?_
  refine JO.nil ?_
  repeat (first | refine JX.next ?_ | refine JX.normal_block ?_)
  refine J.sel [1, 18] (.cons rfl (.cons rfl .nil)) ?_
  repeat refine J.seq ?_
  refine J.cond rfl (fun ht18 => ?_) (fun ht18 => ?_)
  ·
    try simp only [decide_eq_true_eq, decide_eq_false_iff_not] at ht18
    repeat refine J.seq ?_
    refine J.plain ?_
    refine JO.t (ob_assign rfl) rfl ?_
    refine JO.nil ?_
    repeat (first | refine JX.next ?_ | refine JX.normal_block ?_)
    refine J.sel [2] (.cons rfl .nil) ?_
    repeat refine J.seq ?_
    refine J.ret ?_
    repeat (first | refine JX.ret_pass ?_ | refine JX.ret_block ?_)
    exact JX.ret1is rfl rfl (by simp at ht18)
  ·
    try simp only [decide_eq_true_eq, decide_eq_false_iff_not] at ht18
    refine J.skip ?_
    repeat (first | refine JX.next ?_ | refine JX.normal_block ?_)
    repeat refine J.seq ?_
    refine J.plain ?_
    refine JO.t (ob_fieldAddr fo_cadastrelaw12_Null_0 rfl) rfl ?_
    refine JO.t (ob_ld1 sz_uint8 rfl rfl) rfl ?_
    refine JO.t (ob_assign rfl) rfl ?_
    refine JO.nil ?_
    repeat (first | refine JX.next ?_ | refine JX.normal_block ?_)
    refine J.sel [1, 3] (.cons rfl (.cons rfl .nil)) ?_
    repeat refine J.seq ?_
    refine J.plain ?_
    refine JO.t (ob_fieldAddr fo_cadastrelaw12_Null_1 rfl) rfl ?_
    refine JO.t (Ob.rep (R := ExR (.mk k vk vn vs tb nm sl kids)) (ob_ldN (cs := exCells k vk vn vs tb nm sl a len cap) sz_api_Expr rfl rfl rfl) (by simp)) rfl ?_
    refine JO.alloc zo_api_Expr rfl fun b4 => ?_
    refine JO.m (obm_store rfl rfl (by repeat (first | exact .here | apply Upd.there)) (by first | exact cnt_is rfl rfl | exact cnt_ex) (by first | exact cnt_is rfl rfl | exact cnt_ex) ss_api_Expr) (by rfl) ?_
    refine JO.nil ?_
    repeat (first | refine JX.next ?_ | refine JX.normal_block ?_)
    refine J.sel [1, 3, 4] (.cons rfl (.cons rfl (.cons rfl .nil))) ?_
    repeat refine J.seq ?_
    refine J.plain ?_
    refine JO.t (ob_fieldAddr fo_cadastrelaw12_Null_2 rfl) rfl ?_
    refine JO.t (Ob.rep (R := RowS vals) (V := .slice ra rl rc) (ob_ld1 sz_sl_api_Value rfl rfl) (by simp)) rfl ?_
    refine JO.t (ob_assign rfl) rfl ?_
    refine JO.nil ?_
    repeat (first | refine JX.next ?_ | refine JX.normal_block ?_)
    refine J.sel [1, 3, 4, 5] (.cons rfl (.cons rfl (.cons rfl (.cons rfl .nil)))) ?_
    repeat refine J.seq ?_
    refine J.plain ?_
    refine JO.t (ob_fieldAddr fo_cadastrelaw12_Null_3 rfl) rfl ?_
    refine JO.t (ob_ld1 sz_bool rfl rfl) rfl ?_
    refine JO.t (ob_assign rfl) rfl ?_
    refine JO.nil ?_
    repeat (first | refine JX.next ?_ | refine JX.normal_block ?_)
    refine J.sel [3, 4, 5, 6] (.cons rfl (.cons rfl (.cons rfl (.cons rfl .nil)))) ?_
    repeat refine J.seq ?_
    refine J.plain ?_
    refine JO.t (ob_exNil (ob_build (cs := exCells 1 0 0 ⟨#[]⟩ ⟨#[]⟩ ⟨#[]⟩ 0 none 0 0) sh_api_Expr (.cons rfl .nil) rfl rfl)) rfl ?_
    refine JO.alloc zo_api_Expr rfl fun b7 => ?_
    refine JO.m (obm_store rfl rfl (by repeat (first | exact .here | apply Upd.there)) (by first | exact cnt_is rfl rfl | exact cnt_ex) (by first | exact cnt_is rfl rfl | exact cnt_ex) ss_api_Expr) (by rfl) ?_
    refine JO.nil ?_
    repeat (first | refine JX.next ?_ | refine JX.normal_block ?_)
    refine J.sel [3, 4, 5, 6, 7] (.cons rfl (.cons rfl (.cons rfl (.cons rfl (.cons rfl .nil))))) ?_
    repeat refine J.seq ?_
    refine J.plain ?_
    refine JO.t (ob_move rfl) rfl ?_
    refine JO.t (ob_rem rfl rfl (by first | decide | (simp at hg; omega) | simp_all)) rfl ?_
    refine JO.t (ob_convII ⟨_, un_uint8⟩ un_int rfl) rfl ?_
    refine JO.t (ob_add rfl rfl) rfl ?_
    refine JO.t (ob_ldEx sz_api_Expr rfl) rfl ?_
    refine JO.t (ob_ldEx sz_api_Expr rfl) rfl ?_
    refine JO.t (ob_buildEx2 sl_sl_api_Expr rfl rfl) rfl ?_
    refine JO.t (ob_call rfl (c_law12_node _ _) (.one rfl (.one rfl .nil))) rfl ?_
    refine JO.alloc zo_api_Expr rfl fun b8 => ?_
    refine JO.m (obm_store rfl rfl (by repeat (first | exact .here | apply Upd.there)) (by first | exact cnt_is rfl rfl | exact cnt_ex) (by first | exact cnt_is rfl rfl | exact cnt_ex) ss_api_Expr) (by rfl) ?_
    refine JO.nil ?_
    repeat (first | refine JX.next ?_ | refine JX.normal_block ?_)
    refine J.sel [3, 4, 5, 6, 7, 8] (.cons rfl (.cons rfl (.cons rfl (.cons rfl (.cons rfl (.cons rfl .nil)))))) ?_
    repeat refine J.seq ?_
    refine J.plain ?_
    refine JO.t (ob_move rfl) rfl ?_
    refine JO.nil ?_
    repeat (first | refine JX.next ?_ | refine JX.normal_block ?_)
    refine J.sel [3, 4, 5, 7, 8, 36] (.cons rfl (.cons rfl (.cons rfl (.cons rfl (.cons rfl (.cons rfl .nil)))))) ?_
    repeat refine J.seq ?_
    refine J.cond rfl (fun ht36 => ?_) (fun ht36 => ?_)
    ·
      try simp only [decide_eq_true_eq, decide_eq_false_iff_not] at ht36
      repeat refine J.seq ?_
      refine J.plain ?_
      refine JO.t (ob_move rfl) rfl ?_
      refine JO.t (ob_rem rfl rfl (by first | decide | (simp at hg; omega) | simp_all)) rfl ?_
      refine JO.t (ob_convII ⟨_, un_uint8⟩ un_int rfl) rfl ?_
      refine JO.t (ob_add rfl rfl) rfl ?_
      refine JO.t (ob_ldEx sz_api_Expr rfl) rfl ?_
      refine JO.t (ob_ldEx sz_api_Expr rfl) rfl ?_
      refine JO.t (ob_buildEx2 sl_sl_api_Expr rfl rfl) rfl ?_
      refine JO.t (ob_call rfl (c_law12_node _ _) (.one rfl (.one rfl .nil))) rfl ?_
      refine JO.m (obm_store rfl rfl (by repeat (first | exact .here | apply Upd.there)) (by first | exact cnt_is rfl rfl | exact cnt_ex) (by first | exact cnt_is rfl rfl | exact cnt_ex) ss_api_Expr) (by rfl) ?_
      refine JO.nil ?_
      repeat (first | refine JX.next ?_ | refine JX.normal_block ?_)
      refine J.sel [3, 4, 5, 8] (.cons rfl (.cons rfl (.cons rfl (.cons rfl .nil)))) ?_
      repeat refine J.seq ?_
      refine J.plain ?_
      refine JO.t (ob_ldEx sz_api_Expr rfl) rfl ?_
      refine JO.t (ob_move rfl) rfl ?_
      refine JO.t (ob_call rfl (c_expr_Eval _ _) (.one rfl (.one rfl .nil))) rfl ?_
      refine JO.t (ob_move rfl) rfl ?_
      refine JO.t (ob_extract0 rfl) rfl ?_
      refine JO.t (ob_extract1 rfl) rfl ?_
      refine JO.alloc zo_api_Value rfl fun b9 => ?_
      refine JO.m (obm_store rfl rfl (by repeat (first | exact .here | apply Upd.there)) (by first | exact cnt_is rfl rfl | exact cnt_ex) (by first | exact cnt_is rfl rfl | exact cnt_ex) ss_api_Value) (by rfl) ?_
      refine JO.t (ob_assign rfl) rfl ?_
      refine JO.nil ?_
      repeat (first | refine JX.next ?_ | refine JX.normal_block ?_)
      refine J.sel [3, 4, 5, 8, 9, 10] (.cons rfl (.cons rfl (.cons rfl (.cons rfl (.cons rfl (.cons rfl .nil)))))) ?_
      repeat refine J.seq ?_
      refine J.plain ?_
      refine JO.t (ob_ldEx sz_api_Expr rfl) rfl ?_
      refine JO.t (ob_move rfl) rfl ?_
      refine JO.t (ob_call rfl (c_expr_Eval _ _) (.one rfl (.one rfl .nil))) rfl ?_
      refine JO.t (ob_move rfl) rfl ?_
      refine JO.t (ob_extract0 rfl) rfl ?_
      refine JO.t (ob_extract1 rfl) rfl ?_
      refine JO.alloc zo_api_Value rfl fun b11 => ?_
      refine JO.m (obm_store rfl rfl (by repeat (first | exact .here | apply Upd.there)) (by first | exact cnt_is rfl rfl | exact cnt_ex) (by first | exact cnt_is rfl rfl | exact cnt_ex) ss_api_Value) (by rfl) ?_
      refine JO.t (ob_assign rfl) rfl ?_
      refine JO.nil ?_
      repeat (first | refine JX.next ?_ | refine JX.normal_block ?_)
      refine J.sel [3, 4, 5, 9, 10, 11, 12] (.cons rfl (.cons rfl (.cons rfl (.cons rfl (.cons rfl (.cons rfl (.cons rfl .nil))))))) ?_
      repeat refine J.seq ?_
      refine J.plain ?_
      refine JO.t (ob_move rfl) rfl ?_
      refine JO.t (ob_neq rfl rfl) rfl ?_
      refine JO.nil ?_
      repeat (first | refine JX.next ?_ | refine JX.normal_block ?_)
      refine J.sel [3, 4, 5, 9, 10, 11, 12, 58] (.cons rfl (.cons rfl (.cons rfl (.cons rfl (.cons rfl (.cons rfl (.cons rfl (.cons rfl .nil)))))))) ?_
      repeat refine J.seq ?_
      refine J.cond rfl (fun ht58 => ?_) (fun ht58 => ?_)
      ·
        try simp only [decide_eq_true_eq, decide_eq_false_iff_not] at ht58
        repeat refine J.seq ?_
        refine J.reg0 hmx (by kernel_rfl) (by kernel_rfl) ?_
        refine RT.t (ob_move rfl) ?_
        refine RT.t (ob_move rfl) ?_
        refine RT.t (ob_eql rfl rfl) ?_
        refine RT.t (ob_move rfl) ?_
        refine RT.g rfl rfl rfl (fun hg => ob_ldN (cs := [_, _, _]) sz_api_Value (.inl rfl) rfl rfl) ?_
        refine RT.g rfl rfl rfl (fun hg => ob_build (cs := [_, _, _]) sh_api_Value .nil rfl rfl) ?_
        refine RT.g rfl rfl rfl (fun hg => ob_veq veq_api_Value (.inr ⟨_, rfl, fun h => h⟩) (.inr ⟨_, rfl, fun h => h⟩)) ?_
        refine RT.t (ob_pickAnd rfl rfl rfl id) ?_
        refine RT.t (ob_assign rfl) ?_
        refine RT.nil ?_
        refine FinS.nil0 ?_
        repeat (first | refine JX.next ?_ | refine JX.normal_block ?_)
        refine J.sel [2] (.cons rfl .nil) ?_
        repeat refine J.seq ?_
        refine J.ret ?_
        repeat (first | refine JX.ret_pass ?_ | refine JX.ret_block ?_)
        exact JX.ret1is rfl rfl (congrArg Value.bool (law_null1 (b := true) (x := .mk k vk vn vs tb nm sl kids) hv hx ho rfl ht58))
      ·
        try simp only [decide_eq_true_eq, decide_eq_false_iff_not] at ht58
        refine J.skip ?_
        repeat (first | refine JX.next ?_ | refine JX.normal_block ?_)
        repeat refine J.seq ?_
        refine J.plain ?_
        refine JO.t (ob_move rfl) rfl ?_
        refine JO.t (ob_neq rfl rfl) rfl ?_
        refine JO.nil ?_
        repeat (first | refine JX.next ?_ | refine JX.normal_block ?_)
        refine J.sel [3, 4, 5, 9, 11, 12, 68] (.cons rfl (.cons rfl (.cons rfl (.cons rfl (.cons rfl (.cons rfl (.cons rfl .nil))))))) ?_
        repeat refine J.seq ?_
        refine J.cond rfl (fun ht68 => ?_) (fun ht68 => ?_)
        ·
          try simp only [decide_eq_true_eq, decide_eq_false_iff_not] at ht68
          repeat refine J.seq ?_
          refine J.reg0 hmx (by kernel_rfl) (by kernel_rfl) ?_
          refine RT.t (ob_move rfl) ?_
          refine RT.t (ob_eql rfl rfl) ?_
          refine RT.t (ob_move rfl) ?_
          refine RT.g rfl rfl rfl (fun hg => ob_move (.inl rfl)) ?_
          refine RT.g rfl rfl rfl (fun hg => ob_rem (.inr ⟨_, rfl, fun h => h⟩) (.inl rfl) (by first | decide | (simp at hg; omega) | simp_all)) ?_
          refine RT.g rfl rfl rfl (fun hg => ob_lss (.inr ⟨_, rfl, fun h => h⟩) (.inl rfl)) ?_
          refine RT.t (ob_pickAnd rfl rfl rfl id) ?_
          refine RT.t (ob_move rfl) ?_
          refine RT.g rfl rfl rfl (fun hg => ob_fieldAddr fo_api_Value_0 (.inl rfl)) ?_
          refine RT.g rfl rfl rfl (fun hg => ob_ld1 sz_int (.inr ⟨_, rfl, fun h => h⟩) rfl) ?_
          refine RT.g rfl rfl rfl (fun hg => ob_gtr (.inr ⟨_, rfl, fun h => h⟩) (.inl rfl)) ?_
          refine RT.t (ob_pickAnd rfl rfl rfl id) ?_
          refine RT.t (ob_assign rfl) ?_
          refine RT.nil ?_
          refine FinS.nil0 ?_
          repeat (first | refine JX.next ?_ | refine JX.normal_block ?_)
          refine J.sel [2] (.cons rfl .nil) ?_
          repeat refine J.seq ?_
          refine J.ret ?_
          repeat (first | refine JX.ret_pass ?_ | refine JX.ret_block ?_)
          exact JX.ret1is rfl rfl (congrArg Value.bool (law_null2 (b := true) (x := .mk k vk vn vs tb nm sl kids) hv hx ho rfl ht58 ht68))
        ·
          try simp only [decide_eq_true_eq, decide_eq_false_iff_not] at ht68
          refine J.skip ?_
          repeat (first | refine JX.next ?_ | refine JX.normal_block ?_)
          repeat refine J.seq ?_
          refine J.plain ?_
          refine JO.t (ob_ldEx sz_api_Expr rfl) rfl ?_
          refine JO.t (ob_buildEx1 sl_sl_api_Expr rfl) rfl ?_
          refine JO.t (ob_call rfl (c_law12_node _ _) (.one rfl (.one rfl .nil))) rfl ?_
          refine JO.t (ob_move rfl) rfl ?_
          refine JO.t (ob_call rfl (c_expr_Eval _ _) (.one rfl (.one rfl .nil))) rfl ?_
          refine JO.t (ob_move rfl) rfl ?_
          refine JO.t (ob_extract0 rfl) rfl ?_
          refine JO.t (ob_extract1 rfl) rfl ?_
          refine JO.alloc zo_api_Value rfl fun b13 => ?_
          refine JO.m (obm_store rfl rfl (by repeat (first | exact .here | apply Upd.there)) (by first | exact cnt_is rfl rfl | exact cnt_ex) (by first | exact cnt_is rfl rfl | exact cnt_ex) ss_api_Value) (by rfl) ?_
          refine JO.t (ob_assign rfl) rfl ?_
          refine JO.nil ?_
          repeat (first | refine JX.next ?_ | refine JX.normal_block ?_)
          refine J.sel [4, 5, 9, 11, 13, 14] (.cons rfl (.cons rfl (.cons rfl (.cons rfl (.cons rfl (.cons rfl .nil)))))) ?_
          repeat refine J.seq ?_
          refine J.plain ?_
          refine JO.t (ob_ldEx sz_api_Expr rfl) rfl ?_
          refine JO.t (ob_buildEx1 sl_sl_api_Expr rfl) rfl ?_
          refine JO.t (ob_call rfl (c_law12_node _ _) (.one rfl (.one rfl .nil))) rfl ?_
          refine JO.t (ob_move rfl) rfl ?_
          refine JO.t (ob_call rfl (c_expr_Eval _ _) (.one rfl (.one rfl .nil))) rfl ?_
          refine JO.t (ob_move rfl) rfl ?_
          refine JO.t (ob_extract0 rfl) rfl ?_
          refine JO.t (ob_extract1 rfl) rfl ?_
          refine JO.alloc zo_api_Value rfl fun b15 => ?_
          refine JO.m (obm_store rfl rfl (by repeat (first | exact .here | apply Upd.there)) (by first | exact cnt_is rfl rfl | exact cnt_ex) (by first | exact cnt_is rfl rfl | exact cnt_ex) ss_api_Value) (by rfl) ?_
          refine JO.t (ob_assign rfl) rfl ?_
          refine JO.nil ?_
          repeat (first | refine JX.next ?_ | refine JX.normal_block ?_)
          refine J.sel [9, 11, 13, 14, 15, 16] (.cons rfl (.cons rfl (.cons rfl (.cons rfl (.cons rfl (.cons rfl .nil)))))) ?_
          repeat refine J.seq ?_
          refine J.reg0 hmx (by kernel_rfl) (by kernel_rfl) ?_
          refine RT.t (ob_ldN (cs := [_, _, _]) sz_api_Value rfl rfl rfl) ?_
          refine RT.t (ob_build (cs := [_, _, _]) sh_api_Value .nil rfl rfl) ?_
          refine RT.t (ob_veq veq_api_Value rfl rfl) ?_
          refine RT.t (ob_move rfl) ?_
          refine RT.g rfl rfl rfl (fun hg => ob_move (.inl rfl)) ?_
          refine RT.g rfl rfl rfl (fun hg => ob_eql (.inr ⟨_, rfl, fun h => h⟩) (.inl rfl)) ?_
          refine RT.t (ob_pickAnd rfl rfl rfl id) ?_
          refine RT.t (ob_move rfl) ?_
          refine RT.g rfl rfl rfl (fun hg => ob_move (.inl rfl)) ?_
          refine RT.g rfl rfl rfl (fun hg => ob_eql (.inr ⟨_, rfl, fun h => h⟩) (.inl rfl)) ?_
          refine RT.t (ob_pickAnd rfl rfl rfl id) ?_
          refine RT.t (ob_move rfl) ?_
          refine RT.g rfl rfl rfl (fun hg => ob_fieldAddr fo_api_Value_0 (.inl rfl)) ?_
          refine RT.g rfl rfl rfl (fun hg => ob_ld1 sz_int (.inr ⟨_, rfl, fun h => h⟩) rfl) ?_
          refine RT.g rfl rfl rfl (fun hg => ob_eql (.inr ⟨_, rfl, fun h => h⟩) (.inl rfl)) ?_
          refine RT.t (ob_pickAnd rfl rfl rfl id) ?_
          refine RT.t (ob_move rfl) ?_
          refine RT.g rfl rfl rfl (fun hg => ob_fieldAddr fo_api_Value_0 (.inl rfl)) ?_
          refine RT.g rfl rfl rfl (fun hg => ob_ld1 sz_int (.inr ⟨_, rfl, fun h => h⟩) rfl) ?_
          refine RT.g rfl rfl rfl (fun hg => ob_eql (.inr ⟨_, rfl, fun h => h⟩) (.inl rfl)) ?_
          refine RT.t (ob_pickAnd rfl rfl rfl id) ?_
          refine RT.t (ob_move rfl) ?_
          refine RT.g rfl rfl rfl (fun hg => ob_fieldAddr fo_api_Value_1 (.inl rfl)) ?_
          refine RT.g rfl rfl rfl (fun hg => ob_ld1 sz_int64 (.inr ⟨_, rfl, fun h => h⟩) rfl) ?_
          refine RT.g rfl rfl rfl (fun hg => ob_fieldAddr fo_api_Value_1 (.inl rfl)) ?_
          refine RT.g rfl rfl rfl (fun hg => ob_ld1 sz_int64 (.inr ⟨_, rfl, fun h => h⟩) rfl) ?_
          refine RT.g rfl rfl rfl (fun hg => ob_add (.inr ⟨_, rfl, fun h => h⟩) (.inr ⟨_, rfl, fun h => h⟩)) ?_
          refine RT.g rfl rfl rfl (fun hg => ob_eql (.inr ⟨_, rfl, fun h => h⟩) (.inl rfl)) ?_
          refine RT.t (ob_pickAnd rfl rfl rfl id) ?_
          refine RT.t (ob_move rfl) ?_
          refine RT.g rfl rfl rfl (fun hg => ob_fieldAddr fo_api_Value_1 (.inl rfl)) ?_
          refine RT.g rfl rfl rfl (fun hg => ob_ld1 sz_int64 (.inr ⟨_, rfl, fun h => h⟩) rfl) ?_
          refine RT.g rfl rfl rfl (fun hg => ob_eql (.inr ⟨_, rfl, fun h => h⟩) (.inl rfl)) ?_
          refine RT.g rfl rfl rfl (fun hg => ob_fieldAddr fo_api_Value_0 (.inl rfl)) ?_
          refine RT.g rfl rfl rfl (fun hg => ob_ld1 sz_int (.inr ⟨_, rfl, fun h => h⟩) rfl) ?_
          refine RT.g rfl rfl rfl (fun hg => ob_eql (.inr ⟨_, rfl, fun h => h⟩) (.inl rfl)) ?_
          refine RT.g rfl rfl rfl (fun hg => ob_beql un_bool (.inr ⟨_, rfl, fun h => h⟩) (.inr ⟨_, rfl, fun h => h⟩)) ?_
          refine RT.t (ob_pickAnd rfl rfl rfl id) ?_
          refine RT.t (ob_assign rfl) ?_
          refine RT.nil ?_
          refine FinS.nil0 ?_
          repeat (first | refine JX.next ?_ | refine JX.normal_block ?_)
          refine J.sel [2] (.cons rfl .nil) ?_
          repeat refine J.seq ?_
          refine J.ret ?_
          repeat (first | refine JX.ret_pass ?_ | refine JX.ret_block ?_)
          exact JX.ret1is rfl rfl (congrArg Value.bool (law_null3 (b := true) (x := .mk k vk vn vs tb nm sl kids) hv hx ho rfl ht58 ht68))
    ·
      try simp only [decide_eq_true_eq, decide_eq_false_iff_not] at ht36
      refine J.skip ?_
      repeat (first | refine JX.next ?_ | refine JX.normal_block ?_)
      repeat refine J.seq ?_
      refine J.plain ?_
      refine JO.t (ob_ldEx sz_api_Expr rfl) rfl ?_
      refine JO.t (ob_move rfl) rfl ?_
      refine JO.t (ob_call rfl (c_expr_Eval _ _) (.one rfl (.one rfl .nil))) rfl ?_
      refine JO.t (ob_move rfl) rfl ?_
      refine JO.t (ob_extract0 rfl) rfl ?_
      refine JO.t (ob_extract1 rfl) rfl ?_
      refine JO.alloc zo_api_Value rfl fun b9 => ?_
      refine JO.m (obm_store rfl rfl (by repeat (first | exact .here | apply Upd.there)) (by first | exact cnt_is rfl rfl | exact cnt_ex) (by first | exact cnt_is rfl rfl | exact cnt_ex) ss_api_Value) (by rfl) ?_
      refine JO.t (ob_assign rfl) rfl ?_
      refine JO.nil ?_
      repeat (first | refine JX.next ?_ | refine JX.normal_block ?_)
      refine J.sel [3, 4, 5, 8, 9, 10] (.cons rfl (.cons rfl (.cons rfl (.cons rfl (.cons rfl (.cons rfl .nil)))))) ?_
      repeat refine J.seq ?_
      refine J.plain ?_
      refine JO.t (ob_ldEx sz_api_Expr rfl) rfl ?_
      refine JO.t (ob_move rfl) rfl ?_
      refine JO.t (ob_call rfl (c_expr_Eval _ _) (.one rfl (.one rfl .nil))) rfl ?_
      refine JO.t (ob_move rfl) rfl ?_
      refine JO.t (ob_extract0 rfl) rfl ?_
      refine JO.t (ob_extract1 rfl) rfl ?_
      refine JO.alloc zo_api_Value rfl fun b11 => ?_
      refine JO.m (obm_store rfl rfl (by repeat (first | exact .here | apply Upd.there)) (by first | exact cnt_is rfl rfl | exact cnt_ex) (by first | exact cnt_is rfl rfl | exact cnt_ex) ss_api_Value) (by rfl) ?_
      refine JO.t (ob_assign rfl) rfl ?_
      refine JO.nil ?_
      repeat (first | refine JX.next ?_ | refine JX.normal_block ?_)
      refine J.sel [3, 4, 5, 9, 10, 11, 12] (.cons rfl (.cons rfl (.cons rfl (.cons rfl (.cons rfl (.cons rfl (.cons rfl .nil))))))) ?_
      repeat refine J.seq ?_
      refine J.plain ?_
      refine JO.t (ob_move rfl) rfl ?_
      refine JO.t (ob_neq rfl rfl) rfl ?_
      refine JO.nil ?_
      repeat (first | refine JX.next ?_ | refine JX.normal_block ?_)
      refine J.sel [3, 4, 5, 9, 10, 11, 12, 58] (.cons rfl (.cons rfl (.cons rfl (.cons rfl (.cons rfl (.cons rfl (.cons rfl (.cons rfl .nil)))))))) ?_
      repeat refine J.seq ?_
      refine J.cond rfl (fun ht58 => ?_) (fun ht58 => ?_)
      ·
        try simp only [decide_eq_true_eq, decide_eq_false_iff_not] at ht58
        repeat refine J.seq ?_
        refine J.reg0 hmx (by kernel_rfl) (by kernel_rfl) ?_
        refine RT.t (ob_move rfl) ?_
        refine RT.t (ob_move rfl) ?_
        refine RT.t (ob_eql rfl rfl) ?_
        refine RT.t (ob_move rfl) ?_
        refine RT.g rfl rfl rfl (fun hg => ob_ldN (cs := [_, _, _]) sz_api_Value (.inl rfl) rfl rfl) ?_
        refine RT.g rfl rfl rfl (fun hg => ob_build (cs := [_, _, _]) sh_api_Value .nil rfl rfl) ?_
        refine RT.g rfl rfl rfl (fun hg => ob_veq veq_api_Value (.inr ⟨_, rfl, fun h => h⟩) (.inr ⟨_, rfl, fun h => h⟩)) ?_
        refine RT.t (ob_pickAnd rfl rfl rfl id) ?_
        refine RT.t (ob_assign rfl) ?_
        refine RT.nil ?_
        refine FinS.nil0 ?_
        repeat (first | refine JX.next ?_ | refine JX.normal_block ?_)
        refine J.sel [2] (.cons rfl .nil) ?_
        repeat refine J.seq ?_
        refine J.ret ?_
        repeat (first | refine JX.ret_pass ?_ | refine JX.ret_block ?_)
        exact JX.ret1is rfl rfl (congrArg Value.bool (law_null1 (b := false) (x := .mk k vk vn vs tb nm sl kids) hv hx ho rfl ht58))
      ·
        try simp only [decide_eq_true_eq, decide_eq_false_iff_not] at ht58
        refine J.skip ?_
        repeat (first | refine JX.next ?_ | refine JX.normal_block ?_)
        repeat refine J.seq ?_
        refine J.plain ?_
        refine JO.t (ob_move rfl) rfl ?_
        refine JO.t (ob_neq rfl rfl) rfl ?_
        refine JO.nil ?_
        repeat (first | refine JX.next ?_ | refine JX.normal_block ?_)
        refine J.sel [3, 4, 5, 9, 11, 12, 68] (.cons rfl (.cons rfl (.cons rfl (.cons rfl (.cons rfl (.cons rfl (.cons rfl .nil))))))) ?_
        repeat refine J.seq ?_
        refine J.cond rfl (fun ht68 => ?_) (fun ht68 => ?_)
        ·
          try simp only [decide_eq_true_eq, decide_eq_false_iff_not] at ht68
          repeat refine J.seq ?_
          refine J.reg0 hmx (by kernel_rfl) (by kernel_rfl) ?_
          refine RT.t (ob_move rfl) ?_
          refine RT.t (ob_eql rfl rfl) ?_
          refine RT.t (ob_move rfl) ?_
          refine RT.g rfl rfl rfl (fun hg => ob_move (.inl rfl)) ?_
          refine RT.g rfl rfl rfl (fun hg => ob_rem (.inr ⟨_, rfl, fun h => h⟩) (.inl rfl) (by first | decide | (simp at hg; omega) | simp_all)) ?_
          refine RT.g rfl rfl rfl (fun hg => ob_lss (.inr ⟨_, rfl, fun h => h⟩) (.inl rfl)) ?_
          refine RT.t (ob_pickAnd rfl rfl rfl id) ?_
          refine RT.t (ob_move rfl) ?_
          refine RT.g rfl rfl rfl (fun hg => ob_fieldAddr fo_api_Value_0 (.inl rfl)) ?_
          refine RT.g rfl rfl rfl (fun hg => ob_ld1 sz_int (.inr ⟨_, rfl, fun h => h⟩) rfl) ?_
          refine RT.g rfl rfl rfl (fun hg => ob_gtr (.inr ⟨_, rfl, fun h => h⟩) (.inl rfl)) ?_
          refine RT.t (ob_pickAnd rfl rfl rfl id) ?_
          refine RT.t (ob_assign rfl) ?_
          refine RT.nil ?_
          refine FinS.nil0 ?_
          repeat (first | refine JX.next ?_ | refine JX.normal_block ?_)
          refine J.sel [2] (.cons rfl .nil) ?_
          repeat refine J.seq ?_
          refine J.ret ?_
          repeat (first | refine JX.ret_pass ?_ | refine JX.ret_block ?_)
          exact JX.ret1is rfl rfl (congrArg Value.bool (law_null2 (b := false) (x := .mk k vk vn vs tb nm sl kids) hv hx ho rfl ht58 ht68))
        ·
          try simp only [decide_eq_true_eq, decide_eq_false_iff_not] at ht68
          refine J.skip ?_
          repeat (first | refine JX.next ?_ | refine JX.normal_block ?_)
          repeat refine J.seq ?_
          refine J.plain ?_
          refine JO.t (ob_ldEx sz_api_Expr rfl) rfl ?_
          refine JO.t (ob_buildEx1 sl_sl_api_Expr rfl) rfl ?_
          refine JO.t (ob_call rfl (c_law12_node _ _) (.one rfl (.one rfl .nil))) rfl ?_
          refine JO.t (ob_move rfl) rfl ?_
          refine JO.t (ob_call rfl (c_expr_Eval _ _) (.one rfl (.one rfl .nil))) rfl ?_
          refine JO.t (ob_move rfl) rfl ?_
          refine JO.t (ob_extract0 rfl) rfl ?_
          refine JO.t (ob_extract1 rfl) rfl ?_
          refine JO.alloc zo_api_Value rfl fun b13 => ?_
          refine JO.m (obm_store rfl rfl (by repeat (first | exact .here | apply Upd.there)) (by first | exact cnt_is rfl rfl | exact cnt_ex) (by first | exact cnt_is rfl rfl | exact cnt_ex) ss_api_Value) (by rfl) ?_
          refine JO.t (ob_assign rfl) rfl ?_
          refine JO.nil ?_
          repeat (first | refine JX.next ?_ | refine JX.normal_block ?_)
          refine J.sel [4, 5, 9, 11, 13, 14] (.cons rfl (.cons rfl (.cons rfl (.cons rfl (.cons rfl (.cons rfl .nil)))))) ?_
          repeat refine J.seq ?_
          refine J.plain ?_
          refine JO.t (ob_ldEx sz_api_Expr rfl) rfl ?_
          refine JO.t (ob_buildEx1 sl_sl_api_Expr rfl) rfl ?_
          refine JO.t (ob_call rfl (c_law12_node _ _) (.one rfl (.one rfl .nil))) rfl ?_
          refine JO.t (ob_move rfl) rfl ?_
          refine JO.t (ob_call rfl (c_expr_Eval _ _) (.one rfl (.one rfl .nil))) rfl ?_
          refine JO.t (ob_move rfl) rfl ?_
          refine JO.t (ob_extract0 rfl) rfl ?_
          refine JO.t (ob_extract1 rfl) rfl ?_
          refine JO.alloc zo_api_Value rfl fun b15 => ?_
          refine JO.m (obm_store rfl rfl (by repeat (first | exact .here | apply Upd.there)) (by first | exact cnt_is rfl rfl | exact cnt_ex) (by first | exact cnt_is rfl rfl | exact cnt_ex) ss_api_Value) (by rfl) ?_
          refine JO.t (ob_assign rfl) rfl ?_
          refine JO.nil ?_
          repeat (first | refine JX.next ?_ | refine JX.normal_block ?_)
          refine J.sel [9, 11, 13, 14, 15, 16] (.cons rfl (.cons rfl (.cons rfl (.cons rfl (.cons rfl (.cons rfl .nil)))))) ?_
          repeat refine J.seq ?_
          refine J.reg0 hmx (by kernel_rfl) (by kernel_rfl) ?_
          refine RT.t (ob_ldN (cs := [_, _, _]) sz_api_Value rfl rfl rfl) ?_
          refine RT.t (ob_build (cs := [_, _, _]) sh_api_Value .nil rfl rfl) ?_
          refine RT.t (ob_veq veq_api_Value rfl rfl) ?_
          refine RT.t (ob_move rfl) ?_
          refine RT.g rfl rfl rfl (fun hg => ob_move (.inl rfl)) ?_
          refine RT.g rfl rfl rfl (fun hg => ob_eql (.inr ⟨_, rfl, fun h => h⟩) (.inl rfl)) ?_
          refine RT.t (ob_pickAnd rfl rfl rfl id) ?_
          refine RT.t (ob_move rfl) ?_
          refine RT.g rfl rfl rfl (fun hg => ob_move (.inl rfl)) ?_
          refine RT.g rfl rfl rfl (fun hg => ob_eql (.inr ⟨_, rfl, fun h => h⟩) (.inl rfl)) ?_
          refine RT.t (ob_pickAnd rfl rfl rfl id) ?_
          refine RT.t (ob_move rfl) ?_
          refine RT.g rfl rfl rfl (fun hg => ob_fieldAddr fo_api_Value_0 (.inl rfl)) ?_
          refine RT.g rfl rfl rfl (fun hg => ob_ld1 sz_int (.inr ⟨_, rfl, fun h => h⟩) rfl) ?_
          refine RT.g rfl rfl rfl (fun hg => ob_eql (.inr ⟨_, rfl, fun h => h⟩) (.inl rfl)) ?_
          refine RT.t (ob_pickAnd rfl rfl rfl id) ?_
          refine RT.t (ob_move rfl) ?_
          refine RT.g rfl rfl rfl (fun hg => ob_fieldAddr fo_api_Value_0 (.inl rfl)) ?_
          refine RT.g rfl rfl rfl (fun hg => ob_ld1 sz_int (.inr ⟨_, rfl, fun h => h⟩) rfl) ?_
          refine RT.g rfl rfl rfl (fun hg => ob_eql (.inr ⟨_, rfl, fun h => h⟩) (.inl rfl)) ?_
          refine RT.t (ob_pickAnd rfl rfl rfl id) ?_
          refine RT.t (ob_move rfl) ?_
          refine RT.g rfl rfl rfl (fun hg => ob_fieldAddr fo_api_Value_1 (.inl rfl)) ?_
          refine RT.g rfl rfl rfl (fun hg => ob_ld1 sz_int64 (.inr ⟨_, rfl, fun h => h⟩) rfl) ?_
          refine RT.g rfl rfl rfl (fun hg => ob_fieldAddr fo_api_Value_1 (.inl rfl)) ?_
          refine RT.g rfl rfl rfl (fun hg => ob_ld1 sz_int64 (.inr ⟨_, rfl, fun h => h⟩) rfl) ?_
          refine RT.g rfl rfl rfl (fun hg => ob_add (.inr ⟨_, rfl, fun h => h⟩) (.inr ⟨_, rfl, fun h => h⟩)) ?_
          refine RT.g rfl rfl rfl (fun hg => ob_eql (.inr ⟨_, rfl, fun h => h⟩) (.inl rfl)) ?_
          refine RT.t (ob_pickAnd rfl rfl rfl id) ?_
          refine RT.t (ob_move rfl) ?_
          refine RT.g rfl rfl rfl (fun hg => ob_fieldAddr fo_api_Value_1 (.inl rfl)) ?_
          refine RT.g rfl rfl rfl (fun hg => ob_ld1 sz_int64 (.inr ⟨_, rfl, fun h => h⟩) rfl) ?_
          refine RT.g rfl rfl rfl (fun hg => ob_eql (.inr ⟨_, rfl, fun h => h⟩) (.inl rfl)) ?_
          refine RT.g rfl rfl rfl (fun hg => ob_fieldAddr fo_api_Value_0 (.inl rfl)) ?_
          refine RT.g rfl rfl rfl (fun hg => ob_ld1 sz_int (.inr ⟨_, rfl, fun h => h⟩) rfl) ?_
          refine RT.g rfl rfl rfl (fun hg => ob_eql (.inr ⟨_, rfl, fun h => h⟩) (.inl rfl)) ?_
          refine RT.g rfl rfl rfl (fun hg => ob_beql un_bool (.inr ⟨_, rfl, fun h => h⟩) (.inr ⟨_, rfl, fun h => h⟩)) ?_
          refine RT.t (ob_pickAnd rfl rfl rfl id) ?_
          refine RT.t (ob_assign rfl) ?_
          refine RT.nil ?_
          refine FinS.nil0 ?_
          repeat (first | refine JX.next ?_ | refine JX.normal_block ?_)
          refine J.sel [2] (.cons rfl .nil) ?_
          repeat refine J.seq ?_
          refine J.ret ?_
          repeat (first | refine JX.ret_pass ?_ | refine JX.ret_block ?_)
          exact JX.ret1is rfl rfl (congrArg Value.bool (law_null3 (b := false) (x := .mk k vk vn vs tb nm sl kids) hv hx ho rfl ht58 ht68))
end Go.Proofs.Ytibbnimcnepggaa
