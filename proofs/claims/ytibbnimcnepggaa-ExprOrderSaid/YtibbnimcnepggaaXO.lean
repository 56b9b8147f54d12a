/- The order of expressions: what the statement does. No condition. -/
import Derived.Test.YtibbnimcnepggaaXLO
import Derived.Test.YtibbnimcnepggaaXVc16
set_option maxRecDepth 20000
namespace Go.Proofs.Ytibbnimcnepggaa
open Go Go.Vc
theorem opk_get {i : Nat} (h : (i : Int) < 3) : (#[Value.int .i64 12, .int .i64 10, .int .i64 14] : Array Value)[((i : Nat) : Int).toNat]? = some (.int .i64 (opk i)) := by
  rcases (show i = 0 ∨ i = 1 ∨ i = 2 by omega) with rfl | rfl | rfl <;> rfl
theorem cnt_succ {vals : List V3} {a b : Ex} {i : Nat} {t : Bool} (h : (hsF vals a b i).1 = t) : cntF vals a b (i + 1) = cntF vals a b i + if t then 1 else 0 := by
  subst h
  rfl
theorem c_law12_ExprOrder (vals : List V3) (a b : Ex) (ha : exRng a) (hb : exRng b) (hv : ∀ v ∈ vals, v.rng) : CallTy Try.prog f_law12_ExprOrder [.rep (ExR a), .rep (ExR b), .rep (RowS vals)] (.is (.bool true)) :=
  CallTy.of (fn := Try.f8) Try.func8 (n := 163) rfl rfl rfl (fun _ _ => by kernel_rfl) fun E W => by
  repeat refine J.seq ?_
  refine J.plain ?_
  refine JO.box rfl rfl fun b3 => ?_
  refine JO.box rfl rfl fun b4 => ?_
  refine JO.t (ob_assign rfl) rfl ?_
  refine JO.nil ?_
  repeat (first | refine JX.next ?_ | refine JX.normal_block ?_)
  refine J.sel [2, 3, 4] (.cons rfl (.cons rfl (.cons rfl .nil))) ?_
  repeat refine J.seq ?_
  refine J.plain ?_
  refine JO.t (ob_call rfl (c_law12_awake) .nil) rfl ?_
  refine JO.t (ob_not rfl) rfl ?_
  refine JO.nil ?_
  repeat (first | refine JX.next ?_ | refine JX.normal_block ?_)
  refine J.sel [2, 3, 4, 16] (.cons rfl (.cons rfl (.cons rfl (.cons rfl .nil)))) ?_
  repeat refine J.seq ?_
  refine J.cond rfl (fun ht16 => ?_) (fun ht16 => ?_)
  ·
    try simp only [decide_eq_true_eq, decide_eq_false_iff_not] at ht16
    repeat refine J.seq ?_
    refine J.plain ?_
    refine JO.t (ob_assign rfl) rfl ?_
    refine JO.nil ?_
    repeat (first | refine JX.next ?_ | refine JX.normal_block ?_)
    refine J.sel [6] (.cons rfl .nil) ?_
    repeat refine J.seq ?_
    refine J.ret ?_
    repeat (first | refine JX.ret_pass ?_ | refine JX.ret_block ?_)
    exact JX.ret1is rfl rfl (by simp at ht16)
  ·
    try simp only [decide_eq_true_eq, decide_eq_false_iff_not] at ht16
    refine J.skip ?_
    repeat (first | refine JX.next ?_ | refine JX.normal_block ?_)
    repeat refine J.seq ?_
    refine J.reg0 hmx (by kernel_rfl) (by kernel_rfl) ?_
    refine RT.t (ob_ldEx sz_api_Expr rfl) ?_
    refine RT.t (ob_ldEx sz_api_Expr rfl) ?_
    refine RT.t (ob_buildEx2 sl_sl_api_Expr rfl rfl) ?_
    refine RT.t (ob_call rfl (c_law12_node _ _) (.one rfl (.one rfl .nil))) ?_
    refine RT.t (ob_ldEx sz_api_Expr rfl) ?_
    refine RT.t (ob_ldEx sz_api_Expr rfl) ?_
    refine RT.t (ob_buildEx2 sl_sl_api_Expr rfl rfl) ?_
    refine RT.t (ob_call rfl (c_law12_node _ _) (.one rfl (.one rfl .nil))) ?_
    refine RT.t (ob_move rfl) ?_
    refine RT.t (ob_call rfl (c_law12_same _ _ _) (.one rfl (.one rfl (.one rfl .nil)))) ?_
    refine RT.t (ob_not rfl) ?_
    refine RT.t (ob_move rfl) ?_
    refine RT.g rfl rfl rfl (fun hg => ob_ldEx sz_api_Expr (.inl rfl)) ?_
    refine RT.g rfl rfl rfl (fun hg => ob_ldEx sz_api_Expr (.inl rfl)) ?_
    refine RT.g rfl rfl rfl (fun hg => ob_buildEx2 sl_sl_api_Expr (.inr ⟨_, rfl, fun h => h⟩) (.inr ⟨_, rfl, fun h => h⟩)) ?_
    refine RT.g rfl rfl rfl (fun hg => ob_call (.inl rfl) (c_law12_node _ _) (.one (.inl rfl) (.one (.inr ⟨_, rfl, fun h => h⟩) .nil))) ?_
    refine RT.g rfl rfl rfl (fun hg => ob_ldEx sz_api_Expr (.inl rfl)) ?_
    refine RT.g rfl rfl rfl (fun hg => ob_ldEx sz_api_Expr (.inl rfl)) ?_
    refine RT.g rfl rfl rfl (fun hg => ob_buildEx2 sl_sl_api_Expr (.inr ⟨_, rfl, fun h => h⟩) (.inr ⟨_, rfl, fun h => h⟩)) ?_
    refine RT.g rfl rfl rfl (fun hg => ob_call (.inl rfl) (c_law12_node _ _) (.one (.inl rfl) (.one (.inr ⟨_, rfl, fun h => h⟩) .nil))) ?_
    refine RT.g rfl rfl rfl (fun hg => ob_move (.inl rfl)) ?_
    refine RT.g rfl rfl rfl (fun hg => ob_call (.inl rfl) (c_law12_same _ _ _) (.one (.inr ⟨_, rfl, fun h => h⟩) (.one (.inr ⟨_, rfl, fun h => h⟩) (.one (.inr ⟨_, rfl, fun h => h⟩) .nil)))) ?_
    refine RT.g rfl rfl rfl (fun hg => ob_not (.inr ⟨_, rfl, fun h => h⟩)) ?_
    refine RT.t (ob_pickOr rfl rfl rfl id) ?_
    refine RT.t (ob_move rfl) ?_
    refine RT.g rfl rfl rfl (fun hg => ob_ldEx sz_api_Expr (.inl rfl)) ?_
    refine RT.g rfl rfl rfl (fun hg => ob_ldEx sz_api_Expr (.inl rfl)) ?_
    refine RT.g rfl rfl rfl (fun hg => ob_buildEx2 sl_sl_api_Expr (.inr ⟨_, rfl, fun h => h⟩) (.inr ⟨_, rfl, fun h => h⟩)) ?_
    refine RT.g rfl rfl rfl (fun hg => ob_call (.inl rfl) (c_law12_node _ _) (.one (.inl rfl) (.one (.inr ⟨_, rfl, fun h => h⟩) .nil))) ?_
    refine RT.g rfl rfl rfl (fun hg => ob_ldEx sz_api_Expr (.inl rfl)) ?_
    refine RT.g rfl rfl rfl (fun hg => ob_ldEx sz_api_Expr (.inl rfl)) ?_
    refine RT.g rfl rfl rfl (fun hg => ob_buildEx2 sl_sl_api_Expr (.inr ⟨_, rfl, fun h => h⟩) (.inr ⟨_, rfl, fun h => h⟩)) ?_
    refine RT.g rfl rfl rfl (fun hg => ob_call (.inl rfl) (c_law12_node _ _) (.one (.inl rfl) (.one (.inr ⟨_, rfl, fun h => h⟩) .nil))) ?_
    refine RT.g rfl rfl rfl (fun hg => ob_buildEx1 sl_sl_api_Expr (.inr ⟨_, rfl, fun h => h⟩)) ?_
    refine RT.g rfl rfl rfl (fun hg => ob_call (.inl rfl) (c_law12_node _ _) (.one (.inl rfl) (.one (.inr ⟨_, rfl, fun h => h⟩) .nil))) ?_
    refine RT.g rfl rfl rfl (fun hg => ob_move (.inl rfl)) ?_
    refine RT.g rfl rfl rfl (fun hg => ob_call (.inl rfl) (c_law12_same _ _ _) (.one (.inr ⟨_, rfl, fun h => h⟩) (.one (.inr ⟨_, rfl, fun h => h⟩) (.one (.inr ⟨_, rfl, fun h => h⟩) .nil)))) ?_
    refine RT.g rfl rfl rfl (fun hg => ob_not (.inr ⟨_, rfl, fun h => h⟩)) ?_
    refine RT.t (ob_pickOr rfl rfl rfl id) ?_
    refine RT.t (ob_move rfl) ?_
    refine RT.g rfl rfl rfl (fun hg => ob_ldEx sz_api_Expr (.inl rfl)) ?_
    refine RT.g rfl rfl rfl (fun hg => ob_ldEx sz_api_Expr (.inl rfl)) ?_
    refine RT.g rfl rfl rfl (fun hg => ob_buildEx2 sl_sl_api_Expr (.inr ⟨_, rfl, fun h => h⟩) (.inr ⟨_, rfl, fun h => h⟩)) ?_
    refine RT.g rfl rfl rfl (fun hg => ob_call (.inl rfl) (c_law12_node _ _) (.one (.inl rfl) (.one (.inr ⟨_, rfl, fun h => h⟩) .nil))) ?_
    refine RT.g rfl rfl rfl (fun hg => ob_ldEx sz_api_Expr (.inl rfl)) ?_
    refine RT.g rfl rfl rfl (fun hg => ob_ldEx sz_api_Expr (.inl rfl)) ?_
    refine RT.g rfl rfl rfl (fun hg => ob_buildEx2 sl_sl_api_Expr (.inr ⟨_, rfl, fun h => h⟩) (.inr ⟨_, rfl, fun h => h⟩)) ?_
    refine RT.g rfl rfl rfl (fun hg => ob_call (.inl rfl) (c_law12_node _ _) (.one (.inl rfl) (.one (.inr ⟨_, rfl, fun h => h⟩) .nil))) ?_
    refine RT.g rfl rfl rfl (fun hg => ob_buildEx1 sl_sl_api_Expr (.inr ⟨_, rfl, fun h => h⟩)) ?_
    refine RT.g rfl rfl rfl (fun hg => ob_call (.inl rfl) (c_law12_node _ _) (.one (.inl rfl) (.one (.inr ⟨_, rfl, fun h => h⟩) .nil))) ?_
    refine RT.g rfl rfl rfl (fun hg => ob_move (.inl rfl)) ?_
    refine RT.g rfl rfl rfl (fun hg => ob_call (.inl rfl) (c_law12_same _ _ _) (.one (.inr ⟨_, rfl, fun h => h⟩) (.one (.inr ⟨_, rfl, fun h => h⟩) (.one (.inr ⟨_, rfl, fun h => h⟩) .nil)))) ?_
    refine RT.g rfl rfl rfl (fun hg => ob_not (.inr ⟨_, rfl, fun h => h⟩)) ?_
    refine RT.t (ob_pickOr rfl rfl rfl id) ?_
    refine RT.nil ?_
    refine FinS.nil0 ?_
    repeat (first | refine JX.next ?_ | refine JX.normal_block ?_)
    refine J.sel [2, 3, 4, 70] (.cons rfl (.cons rfl (.cons rfl (.cons rfl .nil)))) ?_
    repeat refine J.seq ?_
    refine J.cond rfl (fun ht70 => ?_) (fun ht70 => ?_)
    ·
      try simp only [decide_eq_true_eq, decide_eq_false_iff_not] at ht70
      repeat refine J.seq ?_
      refine J.plain ?_
      refine JO.t (ob_assign rfl) rfl ?_
      refine JO.nil ?_
      repeat (first | refine JX.next ?_ | refine JX.normal_block ?_)
      refine J.sel [6] (.cons rfl .nil) ?_
      repeat refine J.seq ?_
      refine J.ret ?_
      repeat (first | refine JX.ret_pass ?_ | refine JX.ret_block ?_)
      exact JX.ret1is rfl rfl (by rw [law_ord1 hv ha hb] at ht70; cases ht70)
    ·
      try simp only [decide_eq_true_eq, decide_eq_false_iff_not] at ht70
      refine J.skip ?_
      repeat (first | refine JX.next ?_ | refine JX.normal_block ?_)
      repeat refine J.seq ?_
      refine J.reg0 hmx (by kernel_rfl) (by kernel_rfl) ?_
      refine RT.t (ob_ldEx sz_api_Expr rfl) ?_
      refine RT.t (ob_ldEx sz_api_Expr rfl) ?_
      refine RT.t (ob_buildEx2 sl_sl_api_Expr rfl rfl) ?_
      refine RT.t (ob_call rfl (c_law12_node _ _) (.one rfl (.one rfl .nil))) ?_
      refine RT.t (ob_ldEx sz_api_Expr rfl) ?_
      refine RT.t (ob_ldEx sz_api_Expr rfl) ?_
      refine RT.t (ob_buildEx2 sl_sl_api_Expr rfl rfl) ?_
      refine RT.t (ob_call rfl (c_law12_node _ _) (.one rfl (.one rfl .nil))) ?_
      refine RT.t (ob_move rfl) ?_
      refine RT.t (ob_call rfl (c_law12_same _ _ _) (.one rfl (.one rfl (.one rfl .nil)))) ?_
      refine RT.t (ob_not rfl) ?_
      refine RT.t (ob_move rfl) ?_
      refine RT.g rfl rfl rfl (fun hg => ob_ldEx sz_api_Expr (.inl rfl)) ?_
      refine RT.g rfl rfl rfl (fun hg => ob_ldEx sz_api_Expr (.inl rfl)) ?_
      refine RT.g rfl rfl rfl (fun hg => ob_buildEx2 sl_sl_api_Expr (.inr ⟨_, rfl, fun h => h⟩) (.inr ⟨_, rfl, fun h => h⟩)) ?_
      refine RT.g rfl rfl rfl (fun hg => ob_call (.inl rfl) (c_law12_node _ _) (.one (.inl rfl) (.one (.inr ⟨_, rfl, fun h => h⟩) .nil))) ?_
      refine RT.g rfl rfl rfl (fun hg => ob_ldEx sz_api_Expr (.inl rfl)) ?_
      refine RT.g rfl rfl rfl (fun hg => ob_ldEx sz_api_Expr (.inl rfl)) ?_
      refine RT.g rfl rfl rfl (fun hg => ob_buildEx2 sl_sl_api_Expr (.inr ⟨_, rfl, fun h => h⟩) (.inr ⟨_, rfl, fun h => h⟩)) ?_
      refine RT.g rfl rfl rfl (fun hg => ob_call (.inl rfl) (c_law12_node _ _) (.one (.inl rfl) (.one (.inr ⟨_, rfl, fun h => h⟩) .nil))) ?_
      refine RT.g rfl rfl rfl (fun hg => ob_move (.inl rfl)) ?_
      refine RT.g rfl rfl rfl (fun hg => ob_call (.inl rfl) (c_law12_same _ _ _) (.one (.inr ⟨_, rfl, fun h => h⟩) (.one (.inr ⟨_, rfl, fun h => h⟩) (.one (.inr ⟨_, rfl, fun h => h⟩) .nil)))) ?_
      refine RT.g rfl rfl rfl (fun hg => ob_not (.inr ⟨_, rfl, fun h => h⟩)) ?_
      refine RT.t (ob_pickOr rfl rfl rfl id) ?_
      refine RT.t (ob_move rfl) ?_
      refine RT.g rfl rfl rfl (fun hg => ob_ldEx sz_api_Expr (.inl rfl)) ?_
      refine RT.g rfl rfl rfl (fun hg => ob_ldEx sz_api_Expr (.inl rfl)) ?_
      refine RT.g rfl rfl rfl (fun hg => ob_buildEx2 sl_sl_api_Expr (.inr ⟨_, rfl, fun h => h⟩) (.inr ⟨_, rfl, fun h => h⟩)) ?_
      refine RT.g rfl rfl rfl (fun hg => ob_call (.inl rfl) (c_law12_node _ _) (.one (.inl rfl) (.one (.inr ⟨_, rfl, fun h => h⟩) .nil))) ?_
      refine RT.g rfl rfl rfl (fun hg => ob_ldEx sz_api_Expr (.inl rfl)) ?_
      refine RT.g rfl rfl rfl (fun hg => ob_buildEx2 sl_sl_api_Expr (.inr ⟨_, rfl, fun h => h⟩) (.inr ⟨_, rfl, fun h => h⟩)) ?_
      refine RT.g rfl rfl rfl (fun hg => ob_call (.inl rfl) (c_law12_node _ _) (.one (.inl rfl) (.one (.inr ⟨_, rfl, fun h => h⟩) .nil))) ?_
      refine RT.g rfl rfl rfl (fun hg => ob_ldEx sz_api_Expr (.inl rfl)) ?_
      refine RT.g rfl rfl rfl (fun hg => ob_ldEx sz_api_Expr (.inl rfl)) ?_
      refine RT.g rfl rfl rfl (fun hg => ob_ldEx sz_api_Expr (.inl rfl)) ?_
      refine RT.g rfl rfl rfl (fun hg => ob_buildEx2 sl_sl_api_Expr (.inr ⟨_, rfl, fun h => h⟩) (.inr ⟨_, rfl, fun h => h⟩)) ?_
      refine RT.g rfl rfl rfl (fun hg => ob_call (.inl rfl) (c_law12_node _ _) (.one (.inl rfl) (.one (.inr ⟨_, rfl, fun h => h⟩) .nil))) ?_
      refine RT.g rfl rfl rfl (fun hg => ob_buildEx2 sl_sl_api_Expr (.inr ⟨_, rfl, fun h => h⟩) (.inr ⟨_, rfl, fun h => h⟩)) ?_
      refine RT.g rfl rfl rfl (fun hg => ob_call (.inl rfl) (c_law12_node _ _) (.one (.inl rfl) (.one (.inr ⟨_, rfl, fun h => h⟩) .nil))) ?_
      refine RT.g rfl rfl rfl (fun hg => ob_move (.inl rfl)) ?_
      refine RT.g rfl rfl rfl (fun hg => ob_call (.inl rfl) (c_law12_same _ _ _) (.one (.inr ⟨_, rfl, fun h => h⟩) (.one (.inr ⟨_, rfl, fun h => h⟩) (.one (.inr ⟨_, rfl, fun h => h⟩) .nil)))) ?_
      refine RT.g rfl rfl rfl (fun hg => ob_not (.inr ⟨_, rfl, fun h => h⟩)) ?_
      refine RT.t (ob_pickOr rfl rfl rfl id) ?_
      refine RT.nil ?_
      refine FinS.nil0 ?_
      repeat (first | refine JX.next ?_ | refine JX.normal_block ?_)
      refine J.sel [2, 3, 4, 113] (.cons rfl (.cons rfl (.cons rfl (.cons rfl .nil)))) ?_
      repeat refine J.seq ?_
      refine J.cond rfl (fun ht113 => ?_) (fun ht113 => ?_)
      ·
        try simp only [decide_eq_true_eq, decide_eq_false_iff_not] at ht113
        repeat refine J.seq ?_
        refine J.plain ?_
        refine JO.t (ob_assign rfl) rfl ?_
        refine JO.nil ?_
        repeat (first | refine JX.next ?_ | refine JX.normal_block ?_)
        refine J.sel [6] (.cons rfl .nil) ?_
        repeat refine J.seq ?_
        refine J.ret ?_
        repeat (first | refine JX.ret_pass ?_ | refine JX.ret_block ?_)
        exact JX.ret1is rfl rfl (by rw [law_ord2 hv ha hb] at ht113; cases ht113)
      ·
        try simp only [decide_eq_true_eq, decide_eq_false_iff_not] at ht113
        refine J.skip ?_
        repeat (first | refine JX.next ?_ | refine JX.normal_block ?_)
        repeat refine J.seq ?_
        refine J.plain ?_
        refine JO.t (ob_assign rfl) rfl ?_
        refine JO.nil ?_
        repeat (first | refine JX.next ?_ | refine JX.normal_block ?_)
        refine J.sel [2, 3, 4, 7] (.cons rfl (.cons rfl (.cons rfl (.cons rfl .nil)))) ?_
        repeat refine J.seq ?_
        refine J.plain ?_
        refine JO.t (ob_assign rfl) rfl ?_
        refine JO.nil ?_
        repeat (first | refine JX.next ?_ | refine JX.normal_block ?_)
        refine J.sel [2, 3, 4, 7, 8] (.cons rfl (.cons rfl (.cons rfl (.cons rfl (.cons rfl .nil))))) ?_
        repeat refine J.seq ?_
        refine J.block ?_
        repeat refine J.seq ?_
        refine J.loopF (α := Nat) (fun s => [(2, .rep (RowS vals)), (3, _), (4, _), (7, .is (.int .i64 (cntF vals a b s))), (8, .is (.int .i64 (s : Nat)))]) (fun s => s ≤ 3 ∧ ∀ j, j < s → (hsF vals a b j).2 = 0) (fun s => 3 - s) 0 [2, 3, 4, 7, 8] (.cons rfl (.cons rfl (.cons rfl (.cons rfl (.cons rfl .nil))))) ⟨by omega, fun j hj => by omega⟩ fun i ⟨hi, he⟩ => ?_
        repeat refine J.seq ?_
        refine J.plain ?_
        refine JO.t (ob_move rfl) rfl ?_
        refine JO.t (ob_lss rfl rfl) rfl ?_
        refine JO.nil ?_
        repeat (first | refine JX.next ?_ | refine JX.normal_block ?_)
        refine J.sel [2, 3, 4, 7, 8, 115] (.cons rfl (.cons rfl (.cons rfl (.cons rfl (.cons rfl (.cons rfl .nil)))))) ?_
        repeat refine J.seq ?_
        refine J.cond rfl (fun ht115 => ?_) (fun ht115 => ?_)
        ·
          try simp only [decide_eq_true_eq, decide_eq_false_iff_not] at ht115
          refine J.skip ?_
          repeat (first | refine JX.next ?_ | refine JX.normal_block ?_)
          repeat refine J.seq ?_
          refine J.block ?_
          repeat refine J.seq ?_
          refine J.reg0 hmx (by kernel_rfl) (by kernel_rfl) ?_
          refine RT.t (ob_build (cs := [_, _, _]) sh_3_int (.cons rfl (.cons rfl (.cons rfl .nil))) rfl rfl) ?_
          refine RT.t (ob_move rfl) ?_
          refine RT.t (ob_indexArr (n := 3) (e := 3) (by kernel_rfl) sz_int (by kernel_rfl) rfl rfl (by omega) (by omega) (opk_get ht115)) ?_
          refine RT.t (ob_ldEx sz_api_Expr rfl) ?_
          refine RT.t (ob_ldEx sz_api_Expr rfl) ?_
          refine RT.t (ob_buildEx2 sl_sl_api_Expr rfl rfl) ?_
          refine RT.t (ob_call rfl (c_law12_node _ _) (.one rfl (.one rfl .nil))) ?_
          refine RT.t (ob_move rfl) ?_
          refine RT.t (ob_call rfl (c_expr_Holds _ _) (.one rfl (.one rfl .nil))) ?_
          refine RT.t (ob_move rfl) ?_
          refine RT.t (ob_extract0 rfl) ?_
          refine RT.t (ob_extract1 rfl) ?_
          refine RT.t (ob_assign rfl) ?_
          refine RT.t (ob_assign rfl) ?_
          refine RT.nil ?_
          refine FinS.nil0 ?_
          repeat (first | refine JX.next ?_ | refine JX.normal_block ?_)
          refine J.sel [2, 3, 4, 7, 8, 9, 10] (.cons rfl (.cons rfl (.cons rfl (.cons rfl (.cons rfl (.cons rfl (.cons rfl .nil))))))) ?_
          repeat refine J.seq ?_
          refine J.plain ?_
          refine JO.t (ob_move rfl) rfl ?_
          refine JO.t (ob_neq rfl rfl) rfl ?_
          refine JO.nil ?_
          repeat (first | refine JX.next ?_ | refine JX.normal_block ?_)
          refine J.sel [2, 3, 4, 7, 8, 9, 131] (.cons rfl (.cons rfl (.cons rfl (.cons rfl (.cons rfl (.cons rfl (.cons rfl .nil))))))) ?_
          repeat refine J.seq ?_
          refine J.cond rfl (fun ht131 => ?_) (fun ht131 => ?_)
          ·
            try simp only [decide_eq_true_eq, decide_eq_false_iff_not] at ht131
            repeat refine J.seq ?_
            refine J.plain ?_
            refine JO.t (ob_assign rfl) rfl ?_
            refine JO.nil ?_
            repeat (first | refine JX.next ?_ | refine JX.normal_block ?_)
            refine J.sel [6] (.cons rfl .nil) ?_
            repeat refine J.seq ?_
            refine J.ret ?_
            repeat (first | refine JX.ret_pass ?_ | refine JX.ret_block ?_)
            exact JX.ret1is rfl rfl (rfl)
          ·
            try simp only [decide_eq_true_eq, decide_eq_false_iff_not] at ht131
            refine J.skip ?_
            repeat (first | refine JX.next ?_ | refine JX.normal_block ?_)
            repeat refine J.seq ?_
            refine J.plain ?_
            refine JO.t (ob_move rfl) rfl ?_
            refine JO.nil ?_
            repeat (first | refine JX.next ?_ | refine JX.normal_block ?_)
            refine J.sel [2, 3, 4, 7, 8, 132] (.cons rfl (.cons rfl (.cons rfl (.cons rfl (.cons rfl (.cons rfl .nil)))))) ?_
            repeat refine J.seq ?_
            refine J.cond rfl (fun ht132 => ?_) (fun ht132 => ?_)
            ·
              try simp only [decide_eq_true_eq, decide_eq_false_iff_not] at ht132
              repeat refine J.seq ?_
              refine J.plain ?_
              refine JO.t (ob_move rfl) rfl ?_
              refine JO.t (ob_addc (cc := cntF vals a b (i + 1)) rfl rfl (by rw [cnt_succ (t := true) ht132]; rfl) (by have := cnt_le vals a b (i + 1); omega) (by have := cnt_le vals a b (i + 1); omega)) rfl ?_
              refine JO.t (ob_assign rfl) rfl ?_
              refine JO.nil ?_
              repeat (first | refine JX.next ?_ | refine JX.normal_block ?_)
              refine J.sel [2, 3, 4, 7, 8] (.cons rfl (.cons rfl (.cons rfl (.cons rfl (.cons rfl .nil))))) ?_
              repeat refine J.seq ?_
              refine J.plain ?_
              refine JO.t (ob_move rfl) rfl ?_
              refine JO.t (ob_addc (cc := ((i + 1 : Nat) : Int)) rfl rfl (by omega) (by omega) (by omega)) rfl ?_
              refine JO.t (ob_assign rfl) rfl ?_
              refine JO.nil ?_
              refine JX.roundS (i + 1) ?_ ?_ [2, 3, 4, 7, 8] ?_ ?_ ?_
              · exact ⟨by omega, fun j hj => by rcases (show j < i ∨ j = i by omega) with h | rfl; exact he j h; simpa [hsF] using ht131⟩
              · exact (by omega)
              · exact (.cons rfl (.cons rfl (.cons rfl (.cons rfl (.cons rfl .nil)))))
              · repeat (first | exact .slnil | apply List.Sublist.cons_cons | apply List.Sublist.cons)
              · repeat (first | exact .slnil | apply List.Sublist.cons_cons | apply List.Sublist.cons)
            ·
              try simp only [decide_eq_true_eq, decide_eq_false_iff_not] at ht132
              refine J.skip ?_
              repeat (first | refine JX.next ?_ | refine JX.normal_block ?_)
              repeat refine J.seq ?_
              refine J.plain ?_
              refine JO.t (ob_move rfl) rfl ?_
              refine JO.t (ob_addc (cc := ((i + 1 : Nat) : Int)) rfl rfl (by omega) (by omega) (by omega)) rfl ?_
              refine JO.t (ob_assign rfl) rfl ?_
              refine JO.nil ?_
              rw [show cntF vals a b i = cntF vals a b (i + 1) by rw [cnt_succ (t := false) ht132]; simp]
              refine JX.roundS (i + 1) ?_ ?_ [2, 3, 4, 7, 8] ?_ ?_ ?_
              · exact ⟨by omega, fun j hj => by rcases (show j < i ∨ j = i by omega) with h | rfl; exact he j h; simpa [hsF] using ht131⟩
              · exact (by omega)
              · exact (.cons rfl (.cons rfl (.cons rfl (.cons rfl (.cons rfl .nil)))))
              · repeat (first | exact .slnil | apply List.Sublist.cons_cons | apply List.Sublist.cons)
              · repeat (first | exact .slnil | apply List.Sublist.cons_cons | apply List.Sublist.cons)
        ·
          try simp only [decide_eq_true_eq, decide_eq_false_iff_not] at ht115
          repeat refine J.seq ?_
          refine J.exit ?_
          repeat (first | refine JX.hit ?_ | refine JX.miss rfl ?_ | refine JX.exit_pass ?_)
          repeat (first | refine JX.next ?_ | refine JX.normal_block ?_)
          repeat refine J.seq ?_
          refine J.plain ?_
          refine JO.t (ob_ldEx sz_api_Expr rfl) rfl ?_
          refine JO.t (ob_move rfl) rfl ?_
          refine JO.t (ob_call rfl (c_expr_Eval _ _) (.one rfl (.one rfl .nil))) rfl ?_
          refine JO.t (ob_move rfl) rfl ?_
          refine JO.t (ob_extract0 rfl) rfl ?_
          refine JO.t (ob_extract1 rfl) rfl ?_
          refine JO.alloc zo_api_Value rfl fun b11 => ?_
          refine JO.m (obm_store rfl rfl (by repeat (first | exact .here | apply Upd.there)) (by exact cnt_is rfl rfl) (by first | exact cnt_is rfl rfl | exact cnt_ex) ss_api_Value) (by rfl) ?_
          refine JO.t (ob_assign rfl) rfl ?_
          refine JO.nil ?_
          repeat (first | refine JX.next ?_ | refine JX.normal_block ?_)
          refine J.sel [2, 4, 7, 11] (.cons rfl (.cons rfl (.cons rfl (.cons rfl .nil)))) ?_
          repeat refine J.seq ?_
          refine J.plain ?_
          refine JO.t (ob_ldEx sz_api_Expr rfl) rfl ?_
          refine JO.t (ob_move rfl) rfl ?_
          refine JO.t (ob_call rfl (c_expr_Eval _ _) (.one rfl (.one rfl .nil))) rfl ?_
          refine JO.t (ob_move rfl) rfl ?_
          refine JO.t (ob_extract0 rfl) rfl ?_
          refine JO.t (ob_extract1 rfl) rfl ?_
          refine JO.alloc zo_api_Value rfl fun b13 => ?_
          refine JO.m (obm_store rfl rfl (by repeat (first | exact .here | apply Upd.there)) (by exact cnt_is rfl rfl) (by first | exact cnt_is rfl rfl | exact cnt_ex) ss_api_Value) (by rfl) ?_
          refine JO.t (ob_assign rfl) rfl ?_
          refine JO.nil ?_
          repeat (first | refine JX.next ?_ | refine JX.normal_block ?_)
          refine J.sel [7, 11, 13] (.cons rfl (.cons rfl (.cons rfl .nil))) ?_
          repeat refine J.seq ?_
          refine J.reg0 hmx (by kernel_rfl) (by kernel_rfl) ?_
          refine RT.t (ob_move rfl) ?_
          refine RT.t (ob_eql rfl rfl) ?_
          refine RT.t (ob_move rfl) ?_
          refine RT.g rfl rfl rfl (fun hg => ob_move (.inl rfl)) ?_
          refine RT.g rfl rfl rfl (fun hg => ob_eql (.inr ⟨_, rfl, fun h => h⟩) (.inl rfl)) ?_
          refine RT.g rfl rfl rfl (fun hg => ob_move (.inr ⟨_, rfl, fun h => h⟩)) ?_
          refine RT.gg rfl rfl rfl (fun hg => (ob_fieldAddr fo_api_Value_0 (.inl rfl))) ?_
          refine RT.gg rfl rfl rfl (fun hg => (ob_ld1 sz_int (.inr ⟨_, rfl, fun h => h⟩) rfl)) ?_
          refine RT.gg rfl rfl rfl (fun hg => (ob_eql (.inr ⟨_, rfl, fun h => h⟩) (.inl rfl))) ?_
          refine RT.gg rfl rfl rfl (fun hg => (ob_move (.inr ⟨_, rfl, fun h => h⟩))) ?_
          refine RT.gg rfl rfl rfl (fun hg => (ob_fieldAddr fo_api_Value_0 (.inl rfl))) ?_
          refine RT.gg rfl rfl rfl (fun hg => (ob_ld1 sz_int (.inr ⟨_, rfl, fun h => h⟩) rfl)) ?_
          refine RT.gg rfl rfl rfl (fun hg => (ob_eql (.inr ⟨_, rfl, fun h => h⟩) (.inl rfl))) ?_
          refine RT.gg rfl rfl rfl (fun hg => (ob_pickOr (.inr ⟨_, rfl, fun h => h⟩) (.inl rfl) (.inl rfl) (fun h => ⟨hg, h⟩))) ?_
          refine RT.g rfl rfl rfl (fun hg => ob_pickAnd (.inr ⟨_, rfl, fun h => h⟩) (.inl rfl) (.inl rfl) (fun h => ⟨hg, h⟩)) ?_
          refine RT.t (ob_pickOr rfl rfl rfl id) ?_
          refine RT.t (ob_assign rfl) ?_
          refine RT.nil ?_
          refine FinS.nil0 ?_
          repeat (first | refine JX.next ?_ | refine JX.normal_block ?_)
          refine J.sel [6] (.cons rfl .nil) ?_
          repeat refine J.seq ?_
          refine J.ret ?_
          repeat (first | refine JX.ret_pass ?_ | refine JX.ret_block ?_)
          exact JX.ret1is rfl rfl (congrArg Value.bool (law_ord3 hv ha hb hi ht115 he))
end Go.Proofs.Ytibbnimcnepggaa
