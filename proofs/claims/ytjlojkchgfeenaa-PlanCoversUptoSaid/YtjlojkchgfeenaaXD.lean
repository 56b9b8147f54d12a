/- The finder: two kids, and all expressions. No condition. -/
import Derived.Test.YtjlojkchgfeenaaXC
set_option maxRecDepth 20000
namespace Go.Proofs.Ytjlojkchgfeenaa
open Go Go.Vc
theorem ops_get {k c : Int} (h0 : ¬ 16 ≤ k) (h1 : ¬ k ≤ 9) : (#[(.bool (c == 0)), (.bool (c != 0)), (.bool (decide (c < 0))), (.bool (decide (c ≤ 0))), (.bool (decide (0 < c))), (.bool (decide (0 ≤ c)))] : Array Value)[(k - 10).toNat * 1]? = some (.bool (opsF k c)) := by
  have : k = 10 ∨ k = 11 ∨ k = 12 ∨ k = 13 ∨ k = 14 ∨ k = 15 := by omega
  rcases this with rfl | rfl | rfl | rfl | rfl | rfl <;> rfl
theorem c_p_expr_finder_two (vals : List V3) (ra : Option Addr) (rl rc : Nat) (e : Int) (k vk vn : Int) (vs tb nm : ByteArray) (sl : Int) (x y : Ex) (hx : FindOK x) (hy : FindOK y) : CallM Try.prog f_p_expr_finder_two ty_expr_finder (FV ra rl rc e) [RowR vals ra rl] [.rep (ExR (.mk k vk vn vs tb nm sl [x, y]))] (FV ra rl rc (twoF k (findF vals x e) (findF vals y)).2) (.is (vv (twoF k (findF vals x e) (findF vals y)).1)) :=
CallM.of (fn := Try.f61) Try.func61 (n := 100) rfl rfl rfl (fun _ _ => by kernel_rfl) fun E W b0 => by
  refine J.openEx (s := 1) rfl (fun a len cap b o hlen ha => ?_)
  have hlen1 : len = 2 := hlen.symm
  subst hlen1
  repeat refine J.seq ?_
  refine J.plain ?_
  refine JO.box rfl rfl fun b3 => ?_
  refine JO.alloc zo_api_Value rfl fun b4 => ?_
  refine JO.nil ?_
  repeat (first | refine JX.next ?_ | refine JX.normal_block ?_)
  refine J.sel [0, 3, 4] (.cons rfl (.cons rfl (.cons rfl .nil))) ?_
  repeat refine J.seq ?_
  refine J.plain ?_
  refine JO.t (ob_move rfl) rfl ?_
  refine JO.t (ob_fieldAddr fo_api_Expr_5 rfl) rfl ?_
  refine JO.t (ob_ld1 sz_sl_api_Expr rfl rfl) rfl ?_
  refine JO.t (ob_indexAddr el_sl_api_Expr rfl (ha (by omega)) rfl (by omega) (by omega)) rfl ?_
  refine JO.t (ob_loadKid (i := 0) sz_api_Expr rfl List.mem_cons_self (ha (by omega)) rfl rfl) rfl ?_
  refine JO.md (obm_call rfl rfl (hx vals _ _ _ _) (by repeat (first | exact .here | apply Upd.there)) (by simp) (.one rfl .nil)) (by rfl) rfl ?_
  refine JO.alloc zo_api_Value rfl fun b5 => ?_
  refine JO.m (obm_store rfl rfl (by repeat (first | exact .here | apply Upd.there)) (by first | exact cnt_is rfl rfl | exact cnt_ex) (by first | exact cnt_is rfl rfl | exact cnt_ex | exact cnt_aggO) ss_api_Value) (by rfl) ?_
  refine JO.nil ?_
  repeat (first | refine JX.next ?_ | refine JX.normal_block ?_)
  refine J.sel [0, 3, 4, 5] (.cons rfl (.cons rfl (.cons rfl (.cons rfl .nil)))) ?_
  repeat refine J.seq ?_
  refine J.plain ?_
  refine JO.t (ob_fieldAddr fo_api_Expr_0 rfl) rfl ?_
  refine JO.t (ob_ld1 sz_int rfl rfl) rfl ?_
  refine JO.t (ob_geq rfl rfl) rfl ?_
  refine JO.nil ?_
  repeat (first | refine JX.next ?_ | refine JX.normal_block ?_)
  refine J.sel [0, 3, 4, 5, 17] (.cons rfl (.cons rfl (.cons rfl (.cons rfl (.cons rfl .nil))))) ?_
  repeat refine J.seq ?_
  refine J.cond rfl (fun ht17 => ?_) (fun ht17 => ?_)
  ·
    try simp only [decide_eq_true_eq, decide_eq_false_iff_not] at ht17
    repeat refine J.seq ?_
    refine J.plain ?_
    refine JO.t (ob_move rfl) rfl ?_
    refine JO.t (ob_ldN (cs := [_, _, _, _, _, _, _, _]) sz_api_Expr rfl rfl rfl) rfl ?_
    refine JO.t (ob_ldN (cs := [_, _, _]) sz_api_Value rfl rfl rfl) rfl ?_
    refine JO.md (obm_call rfl rfl (c_p_expr_finder_logic vals _ _ _ _ k vk vn vs tb nm sl x y hy _ _ _) (by repeat (first | exact .here | apply Upd.there)) (by simp) (.sub rfl (Sub.fact (by simp [exCells])) (.one rfl .nil))) (by rfl) rfl ?_
    refine JO.m (obm_store rfl rfl (by repeat (first | exact .here | apply Upd.there)) (by first | exact cnt_is rfl rfl | exact cnt_ex) (by first | exact cnt_is rfl rfl | exact cnt_ex | exact cnt_aggO) ss_api_Value) (by rfl) ?_
    refine JO.nil ?_
    repeat (first | refine JX.next ?_ | refine JX.normal_block ?_)
    refine J.sel [4] (.cons rfl .nil) ?_
    repeat refine J.seq ?_
    refine J.ret ?_
    repeat (first | refine JX.ret_pass ?_ | refine JX.ret_block ?_)
    exact JX.retMCis rfl HasOwn.mem rfl sz_api_Value HasOwn.mem rfl (by first | (simp +decide only [twoF, *, ↓reduceIte] <;> rfl) | (simp_all [twoF]; done) | (simp only [twoF, two2F, zero3, truthF, *, ↓reduceIte, Bool.false_eq_true]; done) | (simp_all [twoF, two2F, zero3, truthF]; done) | (simp [twoF, two2F, zero3, truthF, *]; done)) (by first | (simp +decide only [twoF, *, ↓reduceIte] <;> rfl) | (simp_all [twoF]; done) | (simp only [twoF, two2F, zero3, truthF, *, ↓reduceIte, Bool.false_eq_true]; done) | (simp_all [twoF, two2F, zero3, truthF]; done) | (simp [twoF, two2F, zero3, truthF, *]; done))
  ·
    try simp only [decide_eq_true_eq, decide_eq_false_iff_not] at ht17
    refine J.skip ?_
    repeat (first | refine JX.next ?_ | refine JX.normal_block ?_)
    repeat refine J.seq ?_
    refine J.plain ?_
    refine JO.t (ob_move rfl) rfl ?_
    refine JO.t (ob_fieldAddr fo_api_Expr_5 rfl) rfl ?_
    refine JO.t (ob_ld1 sz_sl_api_Expr rfl rfl) rfl ?_
    refine JO.t (ob_indexAddr el_sl_api_Expr rfl (ha (by omega)) rfl (by omega) (by omega)) rfl ?_
    refine JO.t (ob_loadKid (i := 1) sz_api_Expr rfl List.mem_cons_self (ha (by omega)) rfl rfl) rfl ?_
    refine JO.md (obm_call rfl rfl (hy vals _ _ _ _) (by repeat (first | exact .here | apply Upd.there)) (by simp) (.one rfl .nil)) (by rfl) rfl ?_
    refine JO.alloc zo_api_Value rfl fun b6 => ?_
    refine JO.m (obm_store rfl rfl (by repeat (first | exact .here | apply Upd.there)) (by first | exact cnt_is rfl rfl | exact cnt_ex) (by first | exact cnt_is rfl rfl | exact cnt_ex | exact cnt_aggO) ss_api_Value) (by rfl) ?_
    refine JO.nil ?_
    repeat (first | refine JX.next ?_ | refine JX.normal_block ?_)
    refine J.sel [0, 3, 4, 5, 6] (.cons rfl (.cons rfl (.cons rfl (.cons rfl (.cons rfl .nil))))) ?_
    repeat refine J.seq ?_
    refine J.reg0 hmx (by kernel_rfl) (by kernel_rfl) ?_
    refine RT.t (ob_fieldAddr fo_api_Value_0 rfl) ?_
    refine RT.t (ob_ld1 sz_int rfl rfl) ?_
    refine RT.t (ob_eql rfl rfl) ?_
    refine RT.t (ob_move rfl) ?_
    refine RT.g rfl rfl rfl (fun hg => ob_fieldAddr fo_api_Value_0 (.inl rfl)) ?_
    refine RT.g rfl rfl rfl (fun hg => ob_ld1 sz_int (.inr ⟨_, rfl, fun h => h⟩) rfl) ?_
    refine RT.g rfl rfl rfl (fun hg => ob_eql (.inr ⟨_, rfl, fun h => h⟩) (.inl rfl)) ?_
    refine RT.t (ob_pickOr rfl rfl rfl id) ?_
    refine RT.t (ob_assign rfl) ?_
    refine RT.nil ?_
    refine FinS.nil0 ?_
    repeat (first | refine JX.next ?_ | refine JX.normal_block ?_)
    refine J.sel [0, 3, 4, 5, 6, 7] (.cons rfl (.cons rfl (.cons rfl (.cons rfl (.cons rfl (.cons rfl .nil)))))) ?_
    repeat refine J.seq ?_
    refine J.block ?_
    repeat refine J.seq ?_
    refine J.plain ?_
    refine JO.t (ob_move rfl) rfl ?_
    refine JO.t (ob_nilCheck rfl) rfl ?_
    refine JO.t (ob_fieldAddr fo_expr_finder_1 rfl) rfl ?_
    refine JO.t (ob_ld1 sz_api_Errno rfl rfl) rfl ?_
    refine JO.t (ob_neq rfl rfl) rfl ?_
    refine JO.t (ob_assign rfl) rfl ?_
    refine JO.nil ?_
    repeat (first | refine JX.next ?_ | refine JX.normal_block ?_)
    refine J.sel [0, 3, 4, 5, 6, 7, 36] (.cons rfl (.cons rfl (.cons rfl (.cons rfl (.cons rfl (.cons rfl (.cons rfl .nil))))))) ?_
    repeat refine J.seq ?_
    refine J.cond rfl (fun ht36 => ?_) (fun ht36 => ?_)
    ·
      try simp only [decide_eq_true_eq, decide_eq_false_iff_not] at ht36
      repeat refine J.seq ?_
      refine J.plain ?_
      refine JO.t (ob_build (cs := [_, _, _]) sh_api_Value .nil rfl rfl) rfl ?_
      refine JO.m (obm_store rfl rfl (by repeat (first | exact .here | apply Upd.there)) (by first | exact cnt_is rfl rfl | exact cnt_ex) (by first | exact cnt_is rfl rfl | exact cnt_ex | exact cnt_aggO) ss_api_Value) (by rfl) ?_
      refine JO.nil ?_
      repeat (first | refine JX.next ?_ | refine JX.normal_block ?_)
      refine J.sel [4] (.cons rfl .nil) ?_
      repeat refine J.seq ?_
      refine J.ret ?_
      repeat (first | refine JX.ret_pass ?_ | refine JX.ret_block ?_)
      exact JX.retMCis rfl HasOwn.mem rfl sz_api_Value HasOwn.mem rfl (by first | (simp +decide only [twoF, *, ↓reduceIte] <;> rfl) | (simp_all [twoF]; done) | (simp only [twoF, two2F, zero3, truthF, *, ↓reduceIte, Bool.false_eq_true]; done) | (simp_all [twoF, two2F, zero3, truthF]; done) | (simp [twoF, two2F, zero3, truthF, *]; done)) (by first | (simp +decide only [twoF, *, ↓reduceIte] <;> rfl) | (simp_all [twoF]; done) | (simp only [twoF, two2F, zero3, truthF, *, ↓reduceIte, Bool.false_eq_true]; done) | (simp_all [twoF, two2F, zero3, truthF]; done) | (simp [twoF, two2F, zero3, truthF, *]; done))
    ·
      try simp only [decide_eq_true_eq, decide_eq_false_iff_not] at ht36
      repeat refine J.seq ?_
      refine J.plain ?_
      refine JO.t (ob_fieldAddr fo_api_Expr_0 rfl) rfl ?_
      refine JO.t (ob_ld1 sz_int rfl rfl) rfl ?_
      refine JO.t (ob_leq rfl rfl) rfl ?_
      refine JO.t (ob_assign rfl) rfl ?_
      refine JO.nil ?_
      repeat (first | refine JX.next ?_ | refine JX.normal_block ?_)
      refine J.sel [0, 3, 4, 5, 6, 7, 43] (.cons rfl (.cons rfl (.cons rfl (.cons rfl (.cons rfl (.cons rfl (.cons rfl .nil))))))) ?_
      repeat refine J.seq ?_
      refine J.cond rfl (fun ht43 => ?_) (fun ht43 => ?_)
      ·
        try simp only [decide_eq_true_eq, decide_eq_false_iff_not] at ht43
        repeat refine J.seq ?_
        refine J.reg0 hmx (by kernel_rfl) (by kernel_rfl) ?_
        refine RT.t (ob_fieldAddr fo_api_Value_0 rfl) ?_
        refine RT.t (ob_ld1 sz_int rfl rfl) ?_
        refine RT.t (ob_gtr rfl rfl) ?_
        refine RT.t (ob_move rfl) ?_
        refine RT.g rfl rfl rfl (fun hg => ob_fieldAddr fo_api_Value_0 (.inl rfl)) ?_
        refine RT.g rfl rfl rfl (fun hg => ob_ld1 sz_int (.inr ⟨_, rfl, fun h => h⟩) rfl) ?_
        refine RT.g rfl rfl rfl (fun hg => ob_gtr (.inr ⟨_, rfl, fun h => h⟩) (.inl rfl)) ?_
        refine RT.t (ob_pickOr rfl rfl rfl id) ?_
        refine RT.nil ?_
        refine FinS.nil0 ?_
        repeat (first | refine JX.next ?_ | refine JX.normal_block ?_)
        refine J.sel [0, 3, 4, 5, 6, 7, 54] (.cons rfl (.cons rfl (.cons rfl (.cons rfl (.cons rfl (.cons rfl (.cons rfl .nil))))))) ?_
        repeat refine J.seq ?_
        refine J.cond rfl (fun ht54 => ?_) (fun ht54 => ?_)
        ·
          try simp only [decide_eq_true_eq, decide_eq_false_iff_not] at ht54
          repeat refine J.seq ?_
          refine J.plain ?_
          refine JO.t (ob_move rfl) rfl ?_
          refine JO.md (obm_call rfl rfl (c_p_expr_finder_fail vals _ _ _ _ _) (by repeat (first | exact .here | apply Upd.there)) (by simp) (.one rfl .nil)) (by rfl) rfl ?_
          refine JO.m (obm_store rfl rfl (by repeat (first | exact .here | apply Upd.there)) (by first | exact cnt_is rfl rfl | exact cnt_ex) (by first | exact cnt_is rfl rfl | exact cnt_ex | exact cnt_aggO) ss_api_Value) (by rfl) ?_
          refine JO.nil ?_
          repeat (first | refine JX.next ?_ | refine JX.normal_block ?_)
          refine J.sel [4] (.cons rfl .nil) ?_
          repeat refine J.seq ?_
          refine J.ret ?_
          repeat (first | refine JX.ret_pass ?_ | refine JX.ret_block ?_)
          exact JX.retMCis rfl HasOwn.mem rfl sz_api_Value HasOwn.mem rfl (by first | (simp +decide only [twoF, *, ↓reduceIte] <;> rfl) | (simp_all [twoF]; done) | (simp only [twoF, two2F, zero3, truthF, *, ↓reduceIte, Bool.false_eq_true]; done) | (simp_all [twoF, two2F, zero3, truthF]; done) | (simp [twoF, two2F, zero3, truthF, *]; done)) (by first | (simp +decide only [twoF, *, ↓reduceIte] <;> rfl) | (simp_all [twoF]; done) | (simp only [twoF, two2F, zero3, truthF, *, ↓reduceIte, Bool.false_eq_true]; done) | (simp_all [twoF, two2F, zero3, truthF]; done) | (simp [twoF, two2F, zero3, truthF, *]; done))
        ·
          try simp only [decide_eq_true_eq, decide_eq_false_iff_not] at ht54
          refine J.skip ?_
          repeat (first | refine JX.next ?_ | refine JX.normal_block ?_)
          repeat refine J.seq ?_
          refine J.plain ?_
          refine JO.t (ob_move rfl) rfl ?_
          refine JO.nil ?_
          repeat (first | refine JX.next ?_ | refine JX.normal_block ?_)
          refine J.sel [0, 3, 4, 5, 6, 57] (.cons rfl (.cons rfl (.cons rfl (.cons rfl (.cons rfl (.cons rfl .nil)))))) ?_
          repeat refine J.seq ?_
          refine J.cond rfl (fun ht57 => ?_) (fun ht57 => ?_)
          ·
            try simp only [decide_eq_true_eq, decide_eq_false_iff_not] at ht57
            repeat refine J.seq ?_
            refine J.plain ?_
            refine JO.t (ob_build (cs := [_, _, _]) sh_api_Value .nil rfl rfl) rfl ?_
            refine JO.m (obm_store rfl rfl (by repeat (first | exact .here | apply Upd.there)) (by first | exact cnt_is rfl rfl | exact cnt_ex) (by first | exact cnt_is rfl rfl | exact cnt_ex | exact cnt_aggO) ss_api_Value) (by rfl) ?_
            refine JO.nil ?_
            repeat (first | refine JX.next ?_ | refine JX.normal_block ?_)
            refine J.sel [4] (.cons rfl .nil) ?_
            repeat refine J.seq ?_
            refine J.ret ?_
            repeat (first | refine JX.ret_pass ?_ | refine JX.ret_block ?_)
            exact JX.retMCis rfl HasOwn.mem rfl sz_api_Value HasOwn.mem rfl (by first | (simp +decide only [twoF, *, ↓reduceIte] <;> rfl) | (simp_all [twoF]; done) | (simp only [twoF, two2F, zero3, truthF, *, ↓reduceIte, Bool.false_eq_true]; done) | (simp_all [twoF, two2F, zero3, truthF]; done) | (simp [twoF, two2F, zero3, truthF, *]; done)) (by first | (simp +decide only [twoF, *, ↓reduceIte] <;> rfl) | (simp_all [twoF]; done) | (simp only [twoF, two2F, zero3, truthF, *, ↓reduceIte, Bool.false_eq_true]; done) | (simp_all [twoF, two2F, zero3, truthF]; done) | (simp [twoF, two2F, zero3, truthF, *]; done))
          ·
            try simp only [decide_eq_true_eq, decide_eq_false_iff_not] at ht57
            refine J.skip ?_
            repeat (first | refine JX.next ?_ | refine JX.normal_block ?_)
            repeat refine J.seq ?_
            refine J.plain ?_
            refine JO.t (ob_move rfl) rfl ?_
            refine JO.t (ob_fieldAddr fo_api_Expr_0 rfl) rfl ?_
            refine JO.t (ob_ld1 sz_int rfl rfl) rfl ?_
            refine JO.t (ob_fieldAddr fo_api_Value_1 rfl) rfl ?_
            refine JO.t (ob_ld1 sz_int64 rfl rfl) rfl ?_
            refine JO.t (ob_fieldAddr fo_api_Value_1 rfl) rfl ?_
            refine JO.t (ob_ld1 sz_int64 rfl rfl) rfl ?_
            refine JO.md (obm_call rfl rfl (c_p_expr_finder_number vals _ _ _ _ _ _ _) (by repeat (first | exact .here | apply Upd.there)) (by simp) (.one rfl (.one rfl (.one rfl .nil)))) (by rfl) rfl ?_
            refine JO.m (obm_store rfl rfl (by repeat (first | exact .here | apply Upd.there)) (by first | exact cnt_is rfl rfl | exact cnt_ex) (by first | exact cnt_is rfl rfl | exact cnt_ex | exact cnt_aggO) ss_api_Value) (by rfl) ?_
            refine JO.nil ?_
            repeat (first | refine JX.next ?_ | refine JX.normal_block ?_)
            refine J.sel [4] (.cons rfl .nil) ?_
            repeat refine J.seq ?_
            refine J.ret ?_
            repeat (first | refine JX.ret_pass ?_ | refine JX.ret_block ?_)
            exact JX.retMCis rfl HasOwn.mem rfl sz_api_Value HasOwn.mem rfl (by first | (simp +decide only [twoF, *, ↓reduceIte] <;> rfl) | (simp_all [twoF]; done) | (simp only [twoF, two2F, zero3, truthF, *, ↓reduceIte, Bool.false_eq_true]; done) | (simp_all [twoF, two2F, zero3, truthF]; done) | (simp [twoF, two2F, zero3, truthF, *]; done)) (by first | (simp +decide only [twoF, *, ↓reduceIte] <;> rfl) | (simp_all [twoF]; done) | (simp only [twoF, two2F, zero3, truthF, *, ↓reduceIte, Bool.false_eq_true]; done) | (simp_all [twoF, two2F, zero3, truthF]; done) | (simp [twoF, two2F, zero3, truthF, *]; done))
      ·
        try simp only [decide_eq_true_eq, decide_eq_false_iff_not] at ht43
        repeat refine J.seq ?_
        refine J.plain ?_
        refine JO.t (ob_move rfl) rfl ?_
        refine JO.t (ob_assign rfl) rfl ?_
        refine JO.nil ?_
        repeat (first | refine JX.next ?_ | refine JX.normal_block ?_)
        refine J.sel [0, 3, 4, 5, 6, 67] (.cons rfl (.cons rfl (.cons rfl (.cons rfl (.cons rfl (.cons rfl .nil)))))) ?_
        repeat refine J.seq ?_
        refine J.cond rfl (fun ht67 => ?_) (fun ht67 => ?_)
        ·
          try simp only [decide_eq_true_eq, decide_eq_false_iff_not] at ht67
          repeat refine J.seq ?_
          refine J.plain ?_
          refine JO.t (ob_build (cs := [_, _, _]) sh_api_Value .nil rfl rfl) rfl ?_
          refine JO.m (obm_store rfl rfl (by repeat (first | exact .here | apply Upd.there)) (by first | exact cnt_is rfl rfl | exact cnt_ex) (by first | exact cnt_is rfl rfl | exact cnt_ex | exact cnt_aggO) ss_api_Value) (by rfl) ?_
          refine JO.nil ?_
          repeat (first | refine JX.next ?_ | refine JX.normal_block ?_)
          refine J.sel [4] (.cons rfl .nil) ?_
          repeat refine J.seq ?_
          refine J.ret ?_
          repeat (first | refine JX.ret_pass ?_ | refine JX.ret_block ?_)
          exact JX.retMCis rfl HasOwn.mem rfl sz_api_Value HasOwn.mem rfl (by first | (simp +decide only [twoF, *, ↓reduceIte] <;> rfl) | (simp_all [twoF]; done) | (simp only [twoF, two2F, zero3, truthF, *, ↓reduceIte, Bool.false_eq_true]; done) | (simp_all [twoF, two2F, zero3, truthF]; done) | (simp [twoF, two2F, zero3, truthF, *]; done)) (by first | (simp +decide only [twoF, *, ↓reduceIte] <;> rfl) | (simp_all [twoF]; done) | (simp only [twoF, two2F, zero3, truthF, *, ↓reduceIte, Bool.false_eq_true]; done) | (simp_all [twoF, two2F, zero3, truthF]; done) | (simp [twoF, two2F, zero3, truthF, *]; done))
        ·
          try simp only [decide_eq_true_eq, decide_eq_false_iff_not] at ht67
          repeat refine J.seq ?_
          refine J.plain ?_
          refine JO.t (ob_fieldAddr fo_api_Value_0 rfl) rfl ?_
          refine JO.t (ob_ld1 sz_int rfl rfl) rfl ?_
          refine JO.t (ob_fieldAddr fo_api_Value_0 rfl) rfl ?_
          refine JO.t (ob_ld1 sz_int rfl rfl) rfl ?_
          refine JO.t (ob_neq rfl rfl) rfl ?_
          refine JO.t (ob_assign rfl) rfl ?_
          refine JO.nil ?_
          repeat (first | refine JX.next ?_ | refine JX.normal_block ?_)
          refine J.sel [0, 3, 4, 5, 6, 70] (.cons rfl (.cons rfl (.cons rfl (.cons rfl (.cons rfl (.cons rfl .nil)))))) ?_
          repeat refine J.seq ?_
          refine J.cond rfl (fun ht70 => ?_) (fun ht70 => ?_)
          ·
            try simp only [decide_eq_true_eq, decide_eq_false_iff_not] at ht70
            repeat refine J.seq ?_
            refine J.plain ?_
            refine JO.t (ob_move rfl) rfl ?_
            refine JO.md (obm_call rfl rfl (c_p_expr_finder_fail vals _ _ _ _ _) (by repeat (first | exact .here | apply Upd.there)) (by simp) (.one rfl .nil)) (by rfl) rfl ?_
            refine JO.m (obm_store rfl rfl (by repeat (first | exact .here | apply Upd.there)) (by first | exact cnt_is rfl rfl | exact cnt_ex) (by first | exact cnt_is rfl rfl | exact cnt_ex | exact cnt_aggO) ss_api_Value) (by rfl) ?_
            refine JO.nil ?_
            repeat (first | refine JX.next ?_ | refine JX.normal_block ?_)
            refine J.sel [4] (.cons rfl .nil) ?_
            repeat refine J.seq ?_
            refine J.ret ?_
            repeat (first | refine JX.ret_pass ?_ | refine JX.ret_block ?_)
            exact JX.retMCis rfl HasOwn.mem rfl sz_api_Value HasOwn.mem rfl (by first | (simp +decide only [twoF, *, ↓reduceIte] <;> rfl) | (simp_all [twoF]; done) | (simp only [twoF, two2F, zero3, truthF, *, ↓reduceIte, Bool.false_eq_true]; done) | (simp_all [twoF, two2F, zero3, truthF]; done) | (simp [twoF, two2F, zero3, truthF, *]; done)) (by first | (simp +decide only [twoF, *, ↓reduceIte] <;> rfl) | (simp_all [twoF]; done) | (simp only [twoF, two2F, zero3, truthF, *, ↓reduceIte, Bool.false_eq_true]; done) | (simp_all [twoF, two2F, zero3, truthF]; done) | (simp [twoF, two2F, zero3, truthF, *]; done))
          ·
            try simp only [decide_eq_true_eq, decide_eq_false_iff_not] at ht70
            refine J.skip ?_
            repeat (first | refine JX.next ?_ | refine JX.normal_block ?_)
            repeat refine J.seq ?_
            refine J.plain ?_
            refine JO.t (ob_ldN (cs := [_, _, _]) sz_api_Value rfl rfl rfl) rfl ?_
            refine JO.t (ob_ldN (cs := [_, _, _]) sz_api_Value rfl rfl rfl) rfl ?_
            refine JO.t (ob_call rfl (c_value_Compare _ _ _ _ _ _) (.one rfl (.one rfl .nil))) rfl ?_
            refine JO.t (ob_assign rfl) rfl ?_
            refine JO.nil ?_
            repeat (first | refine JX.next ?_ | refine JX.normal_block ?_)
            refine J.sel [3, 4, 8] (.cons rfl (.cons rfl (.cons rfl .nil))) ?_
            repeat refine J.seq ?_
            refine J.plain ?_
            refine JO.t (ob_move rfl) rfl ?_
            refine JO.t (ob_eql rfl rfl) rfl ?_
            refine JO.t (ob_move rfl) rfl ?_
            refine JO.t (ob_neq rfl rfl) rfl ?_
            refine JO.t (ob_move rfl) rfl ?_
            refine JO.t (ob_lss rfl rfl) rfl ?_
            refine JO.t (ob_move rfl) rfl ?_
            refine JO.t (ob_leq rfl rfl) rfl ?_
            refine JO.t (ob_move rfl) rfl ?_
            refine JO.t (ob_gtr rfl rfl) rfl ?_
            refine JO.t (ob_move rfl) rfl ?_
            refine JO.t (ob_geq rfl rfl) rfl ?_
            refine JO.t (ob_buildSlice (cs := [_, _, _, _, _, _]) sl_sl_bool (by omega) (by omega) (.cons rfl (.cons rfl (.cons rfl (.cons rfl (.cons rfl (.cons rfl .nil)))))) rfl rfl rfl) rfl ?_
            refine JO.t (ob_fieldAddr fo_api_Expr_0 rfl) rfl ?_
            refine JO.t (ob_ld1 sz_int rfl rfl) rfl ?_
            refine JO.t (ob_subc (cc := k - 10) rfl rfl rfl (by omega) (by omega)) rfl ?_
            refine JO.t (ob_indexNew el_sl_bool rfl rfl (by omega) (by omega)) rfl ?_
            refine JO.t (ob_loadNew1 (v := .bool (opsF k _)) sz_bool rfl (ops_get ht17 ht43)) rfl ?_
            refine JO.t (ob_call rfl (c_expr_truth _) (.one rfl .nil)) rfl ?_
            refine JO.m (obm_store rfl rfl (by repeat (first | exact .here | apply Upd.there)) (by first | exact cnt_is rfl rfl | exact cnt_ex) (by first | exact cnt_is rfl rfl | exact cnt_ex | exact cnt_aggO) ss_api_Value) (by rfl) ?_
            refine JO.nil ?_
            repeat (first | refine JX.next ?_ | refine JX.normal_block ?_)
            refine J.sel [4] (.cons rfl .nil) ?_
            repeat refine J.seq ?_
            refine J.ret ?_
            repeat (first | refine JX.ret_pass ?_ | refine JX.ret_block ?_)
            exact JX.retMCis rfl HasOwn.mem rfl sz_api_Value HasOwn.mem rfl (by first | (simp +decide only [twoF, *, ↓reduceIte] <;> rfl) | (simp_all [twoF]; done) | (simp only [twoF, two2F, zero3, truthF, *, ↓reduceIte, Bool.false_eq_true]; done) | (simp_all [twoF, two2F, zero3, truthF]; done) | (simp [twoF, two2F, zero3, truthF, *]; done)) (by first | (simp +decide only [twoF, *, ↓reduceIte] <;> rfl) | (simp_all [twoF]; done) | (simp only [twoF, two2F, zero3, truthF, *, ↓reduceIte, Bool.false_eq_true]; done) | (simp_all [twoF, two2F, zero3, truthF]; done) | (simp [twoF, two2F, zero3, truthF, *]; done))
theorem kidsF_le (k : Int) : kidsF k ≤ 2 := by
  unfold kidsF; repeat' split
  all_goals omega
theorem c_find0 (vals : List V3) (ra : Option Addr) (rl rc : Nat) (e : Int) (k vk vn : Int) (vs tb nm : ByteArray) (sl : Int) : CallM Try.prog f_p_expr_finder_find ty_expr_finder (FV ra rl rc e) [RowR vals ra rl] [.rep (ExR (.mk k vk vn vs tb nm sl []))] (FV ra rl rc (findF vals (.mk k vk vn vs tb nm sl []) e).2) (.is (vv (findF vals (.mk k vk vn vs tb nm sl []) e).1)) :=
CallM.of (fn := Try.f38) Try.func38 (n := 28) rfl rfl rfl (fun _ _ => by kernel_rfl) fun E W b0 => by
  refine J.openEx (s := 1) rfl (fun a len cap b o hlen ha => ?_)
  have hlen1 : len = 0 := hlen.symm
  subst hlen1
  repeat refine J.seq ?_
  refine J.plain ?_
  refine JO.box rfl rfl fun b3 => ?_
  refine JO.alloc zo_api_Value rfl fun b4 => ?_
  refine JO.nil ?_
  repeat (first | refine JX.next ?_ | refine JX.normal_block ?_)
  refine J.sel [0, 3, 4] (.cons rfl (.cons rfl (.cons rfl .nil))) ?_
  repeat refine J.seq ?_
  refine J.reg0 hmx (by kernel_rfl) (by kernel_rfl) ?_
  refine RT.t (ob_fieldAddr fo_api_Expr_5 rfl) ?_
  refine RT.t (ob_ld1 sz_sl_api_Expr rfl rfl) ?_
  refine RT.t (ob_len un_sl_api_Expr rfl) ?_
  refine RT.t (ob_fieldAddr fo_api_Expr_0 rfl) ?_
  refine RT.t (ob_ld1 sz_int rfl rfl) ?_
  refine RT.t (ob_call rfl (c_expr_kids _) (.one rfl .nil)) ?_
  refine RT.t (ob_neq rfl rfl) ?_
  refine RT.nil ?_
  refine FinS.nil0 ?_
  repeat (first | refine JX.next ?_ | refine JX.normal_block ?_)
  refine J.sel [0, 3, 4, 11] (.cons rfl (.cons rfl (.cons rfl (.cons rfl .nil)))) ?_
  repeat refine J.seq ?_
  refine J.cond rfl (fun ht11 => ?_) (fun ht11 => ?_)
  ·
    try simp only [decide_eq_true_eq, decide_eq_false_iff_not] at ht11
    repeat refine J.seq ?_
    refine J.plain ?_
    refine JO.t (ob_move rfl) rfl ?_
    refine JO.md (obm_call rfl rfl (c_p_expr_finder_fail vals _ _ _ _ _) (by repeat (first | exact .here | apply Upd.there)) (by simp) (.one rfl .nil)) (by rfl) rfl ?_
    refine JO.m (obm_store rfl rfl (by repeat (first | exact .here | apply Upd.there)) (by first | exact cnt_is rfl rfl | exact cnt_ex) (by first | exact cnt_is rfl rfl | exact cnt_ex | exact cnt_aggO) ss_api_Value) (by rfl) ?_
    refine JO.nil ?_
    repeat (first | refine JX.next ?_ | refine JX.normal_block ?_)
    refine J.sel [4] (.cons rfl .nil) ?_
    repeat refine J.seq ?_
    refine J.ret ?_
    repeat (first | refine JX.ret_pass ?_ | refine JX.ret_block ?_)
    exact JX.retMCis rfl HasOwn.mem rfl sz_api_Value HasOwn.mem rfl (by first | (simp +decide only [findF, *, ↓reduceIte] <;> rfl) | (simp_all [findF]; done) | (simp only [findF, zero3, *, ↓reduceIte, Bool.false_eq_true]; done) | (simp_all [findF, zero3]; done) | (simp [findF, zero3, *]; done)) (by first | (simp +decide only [findF, *, ↓reduceIte] <;> rfl) | (simp_all [findF]; done) | (simp only [findF, zero3, *, ↓reduceIte, Bool.false_eq_true]; done) | (simp_all [findF, zero3]; done) | (simp [findF, zero3, *]; done))
  ·
    try simp only [decide_eq_true_eq, decide_eq_false_iff_not] at ht11
    refine J.skip ?_
    repeat (first | refine JX.next ?_ | refine JX.normal_block ?_)
    repeat refine J.seq ?_
    refine J.front b0 (by repeat (first | exact .here | apply Front.there)) ?_
    refine J.front b4 (by repeat (first | exact .here | apply Front.there)) ?_
    refine J.reg2 hmx (by kernel_rfl) (by kernel_rfl) ?_
    refine RT.t (ob_move rfl) ?_
    refine RT.t (ob_makeFunc (.cons rfl .nil) .nil) ?_
    refine RT.t (ob_move rfl) ?_
    refine RT.t (ob_makeFunc (.cons rfl .nil) .nil) ?_
    refine RT.t (ob_move rfl) ?_
    refine RT.t (ob_makeFunc (.cons rfl .nil) .nil) ?_
    refine RT.t (ob_buildSlice (cs := [_, _, _]) sl_sl_func_api_Expr_api_Value (by omega) (by omega) (.cons rfl (.cons rfl (.cons rfl .nil))) rfl rfl rfl) ?_
    refine RT.t (ob_fieldAddr fo_api_Expr_5 rfl) ?_
    refine RT.t (ob_ld1 sz_sl_api_Expr rfl rfl) ?_
    refine RT.t (ob_len un_sl_api_Expr rfl) ?_
    refine RT.t (ob_indexNew el_sl_func_api_Expr_api_Value rfl rfl (by omega) (by omega)) ?_
    refine RT.t (ob_loadNew1 (v := .func (.func f_p_expr_finder_leaf) #[.pointer (some ⟨b0, 0, none⟩)] #[]) sz_func_api_Expr_api_Value rfl rfl) ?_
    refine RT.t (ob_ldN (cs := [_, _, _, _, _, _, _, _]) sz_api_Expr rfl rfl rfl) ?_
    refine RT.m rfl (obm_callv rfl (c_p_expr_finder_leaf vals _ _ _ _ k vk vn vs tb nm sl []) (by repeat (first | exact .here | apply Upd.there)) (by simp) (.sub rfl (Sub.fact (by simp [exCells])) .nil)) (by rfl) ?_
    refine RT.m rfl (obm_store rfl rfl (by repeat (first | exact .here | apply Upd.there)) (by first | exact cnt_is rfl rfl | exact cnt_ex) (by first | exact cnt_is rfl rfl | exact cnt_ex | exact cnt_aggO) ss_api_Value) (by rfl) ?_
    refine RT.nil ?_
    refine FinS.nil2 ?_
    repeat (first | refine JX.next ?_ | refine JX.normal_block ?_)
    refine J.sel [4] (.cons rfl .nil) ?_
    repeat refine J.seq ?_
    refine J.ret ?_
    repeat (first | refine JX.ret_pass ?_ | refine JX.ret_block ?_)
    exact JX.retMCis rfl HasOwn.mem rfl sz_api_Value HasOwn.mem rfl (by first | (simp +decide only [findF, *, ↓reduceIte] <;> rfl) | (simp_all [findF]; done) | (simp only [findF, zero3, *, ↓reduceIte, Bool.false_eq_true]; done) | (simp_all [findF, zero3]; done) | (simp [findF, zero3, *]; done)) (by first | (simp +decide only [findF, *, ↓reduceIte] <;> rfl) | (simp_all [findF]; done) | (simp only [findF, zero3, *, ↓reduceIte, Bool.false_eq_true]; done) | (simp_all [findF, zero3]; done) | (simp [findF, zero3, *]; done))
theorem c_find1 (vals : List V3) (ra : Option Addr) (rl rc : Nat) (e : Int) (k vk vn : Int) (vs tb nm : ByteArray) (sl : Int) (x : Ex) (hx : FindOK x) : CallM Try.prog f_p_expr_finder_find ty_expr_finder (FV ra rl rc e) [RowR vals ra rl] [.rep (ExR (.mk k vk vn vs tb nm sl [x]))] (FV ra rl rc (findF vals (.mk k vk vn vs tb nm sl [x]) e).2) (.is (vv (findF vals (.mk k vk vn vs tb nm sl [x]) e).1)) :=
CallM.of (fn := Try.f38) Try.func38 (n := 28) rfl rfl rfl (fun _ _ => by kernel_rfl) fun E W b0 => by
  refine J.openEx (s := 1) rfl (fun a len cap b o hlen ha => ?_)
  have hlen1 : len = 1 := hlen.symm
  subst hlen1
  repeat refine J.seq ?_
  refine J.plain ?_
  refine JO.box rfl rfl fun b3 => ?_
  refine JO.alloc zo_api_Value rfl fun b4 => ?_
  refine JO.nil ?_
  repeat (first | refine JX.next ?_ | refine JX.normal_block ?_)
  refine J.sel [0, 3, 4] (.cons rfl (.cons rfl (.cons rfl .nil))) ?_
  repeat refine J.seq ?_
  refine J.reg0 hmx (by kernel_rfl) (by kernel_rfl) ?_
  refine RT.t (ob_fieldAddr fo_api_Expr_5 rfl) ?_
  refine RT.t (ob_ld1 sz_sl_api_Expr rfl rfl) ?_
  refine RT.t (ob_len un_sl_api_Expr rfl) ?_
  refine RT.t (ob_fieldAddr fo_api_Expr_0 rfl) ?_
  refine RT.t (ob_ld1 sz_int rfl rfl) ?_
  refine RT.t (ob_call rfl (c_expr_kids _) (.one rfl .nil)) ?_
  refine RT.t (ob_neq rfl rfl) ?_
  refine RT.nil ?_
  refine FinS.nil0 ?_
  repeat (first | refine JX.next ?_ | refine JX.normal_block ?_)
  refine J.sel [0, 3, 4, 11] (.cons rfl (.cons rfl (.cons rfl (.cons rfl .nil)))) ?_
  repeat refine J.seq ?_
  refine J.cond rfl (fun ht11 => ?_) (fun ht11 => ?_)
  ·
    try simp only [decide_eq_true_eq, decide_eq_false_iff_not] at ht11
    repeat refine J.seq ?_
    refine J.plain ?_
    refine JO.t (ob_move rfl) rfl ?_
    refine JO.md (obm_call rfl rfl (c_p_expr_finder_fail vals _ _ _ _ _) (by repeat (first | exact .here | apply Upd.there)) (by simp) (.one rfl .nil)) (by rfl) rfl ?_
    refine JO.m (obm_store rfl rfl (by repeat (first | exact .here | apply Upd.there)) (by first | exact cnt_is rfl rfl | exact cnt_ex) (by first | exact cnt_is rfl rfl | exact cnt_ex | exact cnt_aggO) ss_api_Value) (by rfl) ?_
    refine JO.nil ?_
    repeat (first | refine JX.next ?_ | refine JX.normal_block ?_)
    refine J.sel [4] (.cons rfl .nil) ?_
    repeat refine J.seq ?_
    refine J.ret ?_
    repeat (first | refine JX.ret_pass ?_ | refine JX.ret_block ?_)
    exact JX.retMCis rfl HasOwn.mem rfl sz_api_Value HasOwn.mem rfl (by first | (simp +decide only [findF, *, ↓reduceIte] <;> rfl) | (simp_all [findF]; done) | (simp only [findF, zero3, *, ↓reduceIte, Bool.false_eq_true]; done) | (simp_all [findF, zero3]; done) | (simp [findF, zero3, *]; done)) (by first | (simp +decide only [findF, *, ↓reduceIte] <;> rfl) | (simp_all [findF]; done) | (simp only [findF, zero3, *, ↓reduceIte, Bool.false_eq_true]; done) | (simp_all [findF, zero3]; done) | (simp [findF, zero3, *]; done))
  ·
    try simp only [decide_eq_true_eq, decide_eq_false_iff_not] at ht11
    refine J.skip ?_
    repeat (first | refine JX.next ?_ | refine JX.normal_block ?_)
    repeat refine J.seq ?_
    refine J.front b0 (by repeat (first | exact .here | apply Front.there)) ?_
    refine J.front b4 (by repeat (first | exact .here | apply Front.there)) ?_
    refine J.reg2 hmx (by kernel_rfl) (by kernel_rfl) ?_
    refine RT.t (ob_move rfl) ?_
    refine RT.t (ob_makeFunc (.cons rfl .nil) .nil) ?_
    refine RT.t (ob_move rfl) ?_
    refine RT.t (ob_makeFunc (.cons rfl .nil) .nil) ?_
    refine RT.t (ob_move rfl) ?_
    refine RT.t (ob_makeFunc (.cons rfl .nil) .nil) ?_
    refine RT.t (ob_buildSlice (cs := [_, _, _]) sl_sl_func_api_Expr_api_Value (by omega) (by omega) (.cons rfl (.cons rfl (.cons rfl .nil))) rfl rfl rfl) ?_
    refine RT.t (ob_fieldAddr fo_api_Expr_5 rfl) ?_
    refine RT.t (ob_ld1 sz_sl_api_Expr rfl rfl) ?_
    refine RT.t (ob_len un_sl_api_Expr rfl) ?_
    refine RT.t (ob_indexNew el_sl_func_api_Expr_api_Value rfl rfl (by omega) (by omega)) ?_
    refine RT.t (ob_loadNew1 (v := .func (.func f_p_expr_finder_one) #[.pointer (some ⟨b0, 0, none⟩)] #[]) sz_func_api_Expr_api_Value rfl rfl) ?_
    refine RT.t (ob_ldN (cs := [_, _, _, _, _, _, _, _]) sz_api_Expr rfl rfl rfl) ?_
    refine RT.m rfl (obm_callv rfl (c_p_expr_finder_one vals _ _ _ _ k vk vn vs tb nm sl x hx) (by repeat (first | exact .here | apply Upd.there)) (by simp) (.sub rfl (Sub.fact (by simp [exCells])) .nil)) (by rfl) ?_
    refine RT.m rfl (obm_store rfl rfl (by repeat (first | exact .here | apply Upd.there)) (by first | exact cnt_is rfl rfl | exact cnt_ex) (by first | exact cnt_is rfl rfl | exact cnt_ex | exact cnt_aggO) ss_api_Value) (by rfl) ?_
    refine RT.nil ?_
    refine FinS.nil2 ?_
    repeat (first | refine JX.next ?_ | refine JX.normal_block ?_)
    refine J.sel [4] (.cons rfl .nil) ?_
    repeat refine J.seq ?_
    refine J.ret ?_
    repeat (first | refine JX.ret_pass ?_ | refine JX.ret_block ?_)
    exact JX.retMCis rfl HasOwn.mem rfl sz_api_Value HasOwn.mem rfl (by first | (simp +decide only [findF, *, ↓reduceIte] <;> rfl) | (simp_all [findF]; done) | (simp only [findF, zero3, *, ↓reduceIte, Bool.false_eq_true]; done) | (simp_all [findF, zero3]; done) | (simp [findF, zero3, *]; done)) (by first | (simp +decide only [findF, *, ↓reduceIte] <;> rfl) | (simp_all [findF]; done) | (simp only [findF, zero3, *, ↓reduceIte, Bool.false_eq_true]; done) | (simp_all [findF, zero3]; done) | (simp [findF, zero3, *]; done))
theorem c_find2 (vals : List V3) (ra : Option Addr) (rl rc : Nat) (e : Int) (k vk vn : Int) (vs tb nm : ByteArray) (sl : Int) (x y : Ex) (hx : FindOK x) (hy : FindOK y) : CallM Try.prog f_p_expr_finder_find ty_expr_finder (FV ra rl rc e) [RowR vals ra rl] [.rep (ExR (.mk k vk vn vs tb nm sl [x, y]))] (FV ra rl rc (findF vals (.mk k vk vn vs tb nm sl [x, y]) e).2) (.is (vv (findF vals (.mk k vk vn vs tb nm sl [x, y]) e).1)) :=
CallM.of (fn := Try.f38) Try.func38 (n := 28) rfl rfl rfl (fun _ _ => by kernel_rfl) fun E W b0 => by
  refine J.openEx (s := 1) rfl (fun a len cap b o hlen ha => ?_)
  have hlen1 : len = 2 := hlen.symm
  subst hlen1
  repeat refine J.seq ?_
  refine J.plain ?_
  refine JO.box rfl rfl fun b3 => ?_
  refine JO.alloc zo_api_Value rfl fun b4 => ?_
  refine JO.nil ?_
  repeat (first | refine JX.next ?_ | refine JX.normal_block ?_)
  refine J.sel [0, 3, 4] (.cons rfl (.cons rfl (.cons rfl .nil))) ?_
  repeat refine J.seq ?_
  refine J.reg0 hmx (by kernel_rfl) (by kernel_rfl) ?_
  refine RT.t (ob_fieldAddr fo_api_Expr_5 rfl) ?_
  refine RT.t (ob_ld1 sz_sl_api_Expr rfl rfl) ?_
  refine RT.t (ob_len un_sl_api_Expr rfl) ?_
  refine RT.t (ob_fieldAddr fo_api_Expr_0 rfl) ?_
  refine RT.t (ob_ld1 sz_int rfl rfl) ?_
  refine RT.t (ob_call rfl (c_expr_kids _) (.one rfl .nil)) ?_
  refine RT.t (ob_neq rfl rfl) ?_
  refine RT.nil ?_
  refine FinS.nil0 ?_
  repeat (first | refine JX.next ?_ | refine JX.normal_block ?_)
  refine J.sel [0, 3, 4, 11] (.cons rfl (.cons rfl (.cons rfl (.cons rfl .nil)))) ?_
  repeat refine J.seq ?_
  refine J.cond rfl (fun ht11 => ?_) (fun ht11 => ?_)
  ·
    try simp only [decide_eq_true_eq, decide_eq_false_iff_not] at ht11
    repeat refine J.seq ?_
    refine J.plain ?_
    refine JO.t (ob_move rfl) rfl ?_
    refine JO.md (obm_call rfl rfl (c_p_expr_finder_fail vals _ _ _ _ _) (by repeat (first | exact .here | apply Upd.there)) (by simp) (.one rfl .nil)) (by rfl) rfl ?_
    refine JO.m (obm_store rfl rfl (by repeat (first | exact .here | apply Upd.there)) (by first | exact cnt_is rfl rfl | exact cnt_ex) (by first | exact cnt_is rfl rfl | exact cnt_ex | exact cnt_aggO) ss_api_Value) (by rfl) ?_
    refine JO.nil ?_
    repeat (first | refine JX.next ?_ | refine JX.normal_block ?_)
    refine J.sel [4] (.cons rfl .nil) ?_
    repeat refine J.seq ?_
    refine J.ret ?_
    repeat (first | refine JX.ret_pass ?_ | refine JX.ret_block ?_)
    exact JX.retMCis rfl HasOwn.mem rfl sz_api_Value HasOwn.mem rfl (by first | (simp +decide only [findF, *, ↓reduceIte] <;> rfl) | (simp_all [findF]; done) | (simp only [findF, zero3, *, ↓reduceIte, Bool.false_eq_true]; done) | (simp_all [findF, zero3]; done) | (simp [findF, zero3, *]; done)) (by first | (simp +decide only [findF, *, ↓reduceIte] <;> rfl) | (simp_all [findF]; done) | (simp only [findF, zero3, *, ↓reduceIte, Bool.false_eq_true]; done) | (simp_all [findF, zero3]; done) | (simp [findF, zero3, *]; done))
  ·
    try simp only [decide_eq_true_eq, decide_eq_false_iff_not] at ht11
    refine J.skip ?_
    repeat (first | refine JX.next ?_ | refine JX.normal_block ?_)
    repeat refine J.seq ?_
    refine J.front b0 (by repeat (first | exact .here | apply Front.there)) ?_
    refine J.front b4 (by repeat (first | exact .here | apply Front.there)) ?_
    refine J.reg2 hmx (by kernel_rfl) (by kernel_rfl) ?_
    refine RT.t (ob_move rfl) ?_
    refine RT.t (ob_makeFunc (.cons rfl .nil) .nil) ?_
    refine RT.t (ob_move rfl) ?_
    refine RT.t (ob_makeFunc (.cons rfl .nil) .nil) ?_
    refine RT.t (ob_move rfl) ?_
    refine RT.t (ob_makeFunc (.cons rfl .nil) .nil) ?_
    refine RT.t (ob_buildSlice (cs := [_, _, _]) sl_sl_func_api_Expr_api_Value (by omega) (by omega) (.cons rfl (.cons rfl (.cons rfl .nil))) rfl rfl rfl) ?_
    refine RT.t (ob_fieldAddr fo_api_Expr_5 rfl) ?_
    refine RT.t (ob_ld1 sz_sl_api_Expr rfl rfl) ?_
    refine RT.t (ob_len un_sl_api_Expr rfl) ?_
    refine RT.t (ob_indexNew el_sl_func_api_Expr_api_Value rfl rfl (by omega) (by omega)) ?_
    refine RT.t (ob_loadNew1 (v := .func (.func f_p_expr_finder_two) #[.pointer (some ⟨b0, 0, none⟩)] #[]) sz_func_api_Expr_api_Value rfl rfl) ?_
    refine RT.t (ob_ldN (cs := [_, _, _, _, _, _, _, _]) sz_api_Expr rfl rfl rfl) ?_
    refine RT.m rfl (obm_callv rfl (c_p_expr_finder_two vals _ _ _ _ k vk vn vs tb nm sl x y hx hy) (by repeat (first | exact .here | apply Upd.there)) (by simp) (.sub rfl (Sub.fact (by simp [exCells])) .nil)) (by rfl) ?_
    refine RT.m rfl (obm_store rfl rfl (by repeat (first | exact .here | apply Upd.there)) (by first | exact cnt_is rfl rfl | exact cnt_ex) (by first | exact cnt_is rfl rfl | exact cnt_ex | exact cnt_aggO) ss_api_Value) (by rfl) ?_
    refine RT.nil ?_
    refine FinS.nil2 ?_
    repeat (first | refine JX.next ?_ | refine JX.normal_block ?_)
    refine J.sel [4] (.cons rfl .nil) ?_
    repeat refine J.seq ?_
    refine J.ret ?_
    repeat (first | refine JX.ret_pass ?_ | refine JX.ret_block ?_)
    exact JX.retMCis rfl HasOwn.mem rfl sz_api_Value HasOwn.mem rfl (by first | (simp +decide only [findF, *, ↓reduceIte] <;> rfl) | (simp_all [findF]; done) | (simp only [findF, zero3, *, ↓reduceIte, Bool.false_eq_true]; done) | (simp_all [findF, zero3]; done) | (simp [findF, zero3, *]; done)) (by first | (simp +decide only [findF, *, ↓reduceIte] <;> rfl) | (simp_all [findF]; done) | (simp only [findF, zero3, *, ↓reduceIte, Bool.false_eq_true]; done) | (simp_all [findF, zero3]; done) | (simp [findF, zero3, *]; done))
theorem c_find3 (vals : List V3) (ra : Option Addr) (rl rc : Nat) (e : Int) (k vk vn : Int) (vs tb nm : ByteArray) (sl : Int) (x y z : Ex) (zs : List Ex) : CallM Try.prog f_p_expr_finder_find ty_expr_finder (FV ra rl rc e) [RowR vals ra rl] [.rep (ExR (.mk k vk vn vs tb nm sl (x :: y :: z :: zs)))] (FV ra rl rc (findF vals (.mk k vk vn vs tb nm sl (x :: y :: z :: zs)) e).2) (.is (vv (findF vals (.mk k vk vn vs tb nm sl (x :: y :: z :: zs)) e).1)) :=
CallM.of (fn := Try.f38) Try.func38 (n := 28) rfl rfl rfl (fun _ _ => by kernel_rfl) fun E W b0 => by
  refine J.openEx (s := 1) rfl (fun a len cap b o hlen ha => ?_)
  repeat refine J.seq ?_
  refine J.plain ?_
  refine JO.box rfl rfl fun b3 => ?_
  refine JO.alloc zo_api_Value rfl fun b4 => ?_
  refine JO.nil ?_
  repeat (first | refine JX.next ?_ | refine JX.normal_block ?_)
  refine J.sel [0, 3, 4] (.cons rfl (.cons rfl (.cons rfl .nil))) ?_
  repeat refine J.seq ?_
  refine J.reg0 hmx (by kernel_rfl) (by kernel_rfl) ?_
  refine RT.t (ob_fieldAddr fo_api_Expr_5 rfl) ?_
  refine RT.t (ob_ld1 sz_sl_api_Expr rfl rfl) ?_
  refine RT.t (ob_len un_sl_api_Expr rfl) ?_
  refine RT.t (ob_fieldAddr fo_api_Expr_0 rfl) ?_
  refine RT.t (ob_ld1 sz_int rfl rfl) ?_
  refine RT.t (ob_call rfl (c_expr_kids _) (.one rfl .nil)) ?_
  refine RT.t (ob_neq rfl rfl) ?_
  refine RT.nil ?_
  refine FinS.nil0 ?_
  repeat (first | refine JX.next ?_ | refine JX.normal_block ?_)
  refine J.sel [0, 3, 4, 11] (.cons rfl (.cons rfl (.cons rfl (.cons rfl .nil)))) ?_
  repeat refine J.seq ?_
  refine J.cond rfl (fun ht11 => ?_) (fun ht11 => ?_)
  ·
    try simp only [decide_eq_true_eq, decide_eq_false_iff_not] at ht11
    repeat refine J.seq ?_
    refine J.plain ?_
    refine JO.t (ob_move rfl) rfl ?_
    refine JO.md (obm_call rfl rfl (c_p_expr_finder_fail vals _ _ _ _ _) (by repeat (first | exact .here | apply Upd.there)) (by simp) (.one rfl .nil)) (by rfl) rfl ?_
    refine JO.m (obm_store rfl rfl (by repeat (first | exact .here | apply Upd.there)) (by first | exact cnt_is rfl rfl | exact cnt_ex) (by first | exact cnt_is rfl rfl | exact cnt_ex | exact cnt_aggO) ss_api_Value) (by rfl) ?_
    refine JO.nil ?_
    repeat (first | refine JX.next ?_ | refine JX.normal_block ?_)
    refine J.sel [4] (.cons rfl .nil) ?_
    repeat refine J.seq ?_
    refine J.ret ?_
    repeat (first | refine JX.ret_pass ?_ | refine JX.ret_block ?_)
    exact JX.retMCis rfl HasOwn.mem rfl sz_api_Value HasOwn.mem rfl (by first | (simp +decide only [findF, *, ↓reduceIte] <;> rfl) | (simp_all [findF]; done) | (simp only [findF, zero3, *, ↓reduceIte, Bool.false_eq_true]; done) | (simp_all [findF, zero3]; done) | (simp [findF, zero3, *]; done)) (by first | (simp +decide only [findF, *, ↓reduceIte] <;> rfl) | (simp_all [findF]; done) | (simp only [findF, zero3, *, ↓reduceIte, Bool.false_eq_true]; done) | (simp_all [findF, zero3]; done) | (simp [findF, zero3, *]; done))
  ·
    try simp only [decide_eq_true_eq, decide_eq_false_iff_not] at ht11
    have := kidsF_le k
    simp at ht11 hlen
    omega
mutual
theorem findOK : ∀ x : Ex, FindOK x
  | .mk k vk vn vs tb nm sl kids => findOKk k vk vn vs tb nm sl kids
theorem findOKk (k vk vn : Int) (vs tb nm : ByteArray) (sl : Int) : ∀ kids : List Ex, FindOK (.mk k vk vn vs tb nm sl kids)
  | [] => fun vals ra rl rc e => c_find0 vals ra rl rc e k vk vn vs tb nm sl
  | [x] => fun vals ra rl rc e => c_find1 vals ra rl rc e k vk vn vs tb nm sl x (findOK x)
  | [x, y] => fun vals ra rl rc e => c_find2 vals ra rl rc e k vk vn vs tb nm sl x y (findOK x) (findOK y)
  | x :: y :: z :: zs => fun vals ra rl rc e => c_find3 vals ra rl rc e k vk vn vs tb nm sl x y z zs
end
end Go.Proofs.Ytjlojkchgfeenaa
