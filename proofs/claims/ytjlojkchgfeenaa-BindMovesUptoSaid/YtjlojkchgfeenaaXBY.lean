/- Columns turned round: what the statement does. No condition. -/
import Derived.Test.YtjlojkchgfeenaaXBM
import Derived.Test.YtjlojkchgfeenaaXAW
set_option maxRecDepth 20000
namespace Go.Proofs.Ytjlojkchgfeenaa
open Go Go.Vc
theorem v3_len (v : V3) : v.cells.length = 3 := rfl
theorem vals_get {vals : List V3} {i : Nat} (h : i < vals.length) : vals[i]? = some (vals.getD i zero3) := by simp [h]
theorem c_law14_BindMoves (x : Ex) (cols : List C3) (vals : List V3) (hl : cols.length ≤ 1048576) (hv : vals.length ≤ 1048576) : CallTy Try.prog f_law14_BindMoves [.rep (ExR x), .rep (SlG C3.cells 3 cols), .rep (RowS vals)] (.is (.bool true)) :=
  CallTy.of (fn := Try.f5) Try.func5 (n := 105) rfl rfl rfl (fun _ _ => by kernel_rfl) fun E W => by
  refine J.openSl (s := 1) rfl (fun ca cl cc cb co hcl hca => ?_)
  refine J.openRow (s := 2) rfl (fun ra rl rc rb ro hrl hra => ?_)
  subst hcl hrl
  repeat refine J.seq ?_
  refine J.plain ?_
  refine JO.box rfl rfl fun b3 => ?_
  refine JO.t (ob_assign rfl) rfl ?_
  refine JO.nil ?_
  repeat (first | refine JX.next ?_ | refine JX.normal_block ?_)
  refine J.sel [1, 2, 3] (.cons rfl (.cons rfl (.cons rfl .nil))) ?_
  repeat refine J.seq ?_
  refine J.plain ?_
  refine JO.t (ob_call rfl (c_law14_awake) .nil) rfl ?_
  refine JO.t (ob_not rfl) rfl ?_
  refine JO.nil ?_
  repeat (first | refine JX.next ?_ | refine JX.normal_block ?_)
  refine J.sel [1, 2, 3, 22] (.cons rfl (.cons rfl (.cons rfl (.cons rfl .nil)))) ?_
  repeat refine J.seq ?_
  refine J.cond rfl (fun ht22 => ?_) (fun ht22 => ?_)
  ·
    try simp only [decide_eq_true_eq, decide_eq_false_iff_not] at ht22
    repeat refine J.seq ?_
    refine J.plain ?_
    refine JO.t (ob_assign rfl) rfl ?_
    refine JO.nil ?_
    repeat (first | refine JX.next ?_ | refine JX.normal_block ?_)
    refine J.sel [6] (.cons rfl .nil) ?_
    repeat refine J.seq ?_
    refine J.ret ?_
    repeat (first | refine JX.ret_pass ?_ | refine JX.ret_block ?_)
    exact JX.ret1is rfl rfl (by simp at ht22)
  ·
    try simp only [decide_eq_true_eq, decide_eq_false_iff_not] at ht22
    refine J.skip ?_
    repeat (first | refine JX.next ?_ | refine JX.normal_block ?_)
    repeat refine J.seq ?_
    refine J.plain ?_
    refine JO.t (ob_move rfl) rfl ?_
    refine JO.t (ob_len un_sl_api_Value rfl) rfl ?_
    refine JO.t (ob_move rfl) rfl ?_
    refine JO.t (ob_len un_sl_cadastreref14_Col rfl) rfl ?_
    refine JO.t (ob_neq rfl rfl) rfl ?_
    refine JO.nil ?_
    repeat (first | refine JX.next ?_ | refine JX.normal_block ?_)
    refine J.sel [1, 2, 3, 27] (.cons rfl (.cons rfl (.cons rfl (.cons rfl .nil)))) ?_
    repeat refine J.seq ?_
    refine J.cond rfl (fun ht27 => ?_) (fun ht27 => ?_)
    ·
      try simp only [decide_eq_true_eq, decide_eq_false_iff_not] at ht27
      repeat refine J.seq ?_
      refine J.plain ?_
      refine JO.t (ob_assign rfl) rfl ?_
      refine JO.nil ?_
      repeat (first | refine JX.next ?_ | refine JX.normal_block ?_)
      refine J.sel [6] (.cons rfl .nil) ?_
      repeat refine J.seq ?_
      refine J.ret ?_
      repeat (first | refine JX.ret_pass ?_ | refine JX.ret_block ?_)
      exact JX.ret1is rfl rfl (by rfl)
    ·
      try simp only [decide_eq_true_eq, decide_eq_false_iff_not] at ht27
      refine J.skip ?_
      repeat (first | refine JX.next ?_ | refine JX.normal_block ?_)
      repeat refine J.seq ?_
      refine J.plain ?_
      refine JO.t (ob_move rfl) rfl ?_
      refine JO.t (ob_call rfl (c_law14_scope cols hl) (.sub rfl (Sub.slFact (by simp)) .nil)) rfl ?_
      refine JO.t (ob_assign rfl) rfl ?_
      refine JO.nil ?_
      repeat (first | refine JX.next ?_ | refine JX.normal_block ?_)
      refine J.sel [2, 3, 7] (.cons rfl (.cons rfl (.cons rfl .nil))) ?_
      have hvl : vals.length = cols.length := by have h27 := ht27; simp at h27; omega
      refine J.openSl (s := 7) rfl (fun la ll lc lb lo hll hla => ?_)
      subst hll
      repeat refine J.seq ?_
      refine J.plain ?_
      refine JO.t (ob_assign rfl) rfl ?_
      refine JO.nil ?_
      repeat (first | refine JX.next ?_ | refine JX.normal_block ?_)
      refine J.sel [2, 3, 7, 8] (.cons rfl (.cons rfl (.cons rfl (.cons rfl .nil)))) ?_
      repeat refine J.seq ?_
      refine J.plain ?_
      refine JO.t (ob_assign rfl) rfl ?_
      refine JO.nil ?_
      repeat (first | refine JX.next ?_ | refine JX.normal_block ?_)
      refine J.sel [2, 3, 7, 8, 9] (.cons rfl (.cons rfl (.cons rfl (.cons rfl (.cons rfl .nil))))) ?_
      repeat refine J.seq ?_
      refine J.plain ?_
      refine JO.t (ob_move rfl) rfl ?_
      refine JO.t (ob_len un_sl_bind_Col rfl) rfl ?_
      refine JO.t (ob_subc (cc := (cols.length : Int) - 1) rfl rfl rfl (by omega) (by omega)) rfl ?_
      refine JO.t (ob_assign rfl) rfl ?_
      refine JO.nil ?_
      repeat (first | refine JX.next ?_ | refine JX.normal_block ?_)
      refine J.sel [2, 3, 7, 8, 9, 10] (.cons rfl (.cons rfl (.cons rfl (.cons rfl (.cons rfl (.cons rfl .nil)))))) ?_
      repeat refine J.seq ?_
      refine J.block ?_
      repeat refine J.seq ?_
      refine J.loopG (α := Nat × List C3 × List V3 × Option (Nat × List Value) × Nat × Option (Nat × List Value) × Nat) (fun s => [(2, .is (.slice ra vals.length rc)), (3, .is (.pointer (some ⟨b3, 0, none⟩))), (7, .is (.slice la cols.length lc)), (8, .is (sliceO s.2.2.2.1 s.2.1.length s.2.2.2.2.1)), (9, .is (sliceO s.2.2.2.2.2.1 s.2.2.1.length s.2.2.2.2.2.2)), (10, .is (.int .i64 ((s.1 : Int) - 1)))]) (fun s => ⟨b3, ty_api_Expr, .rep (ExR x)⟩ :: ownO s.2.2.2.1 ty_bind_Col (ownO s.2.2.2.2.2.1 ty_api_Value [])) (fun s => fun _ => True) (fun s => s.1 ≤ cols.length ∧ s.2.1 = (cols.drop s.1).reverse ∧ s.2.2.1 = (vals.drop s.1).reverse ∧ Grows C3.cells 3 s.2.1 s.2.2.2.1 s.2.2.2.2.1 ∧ Grows V3.cells 3 s.2.2.1 s.2.2.2.2.2.1 s.2.2.2.2.2.2) (fun s => s.1) (cols.length, [], [], none, 0, none, 0) [2, 3, 7, 8, 9, 10] (.cons rfl (.cons rfl (.cons rfl (.cons rfl (.cons rfl (.cons rfl .nil)))))) rfl (fun _ => trivial) ⟨Nat.le_refl _, by simp, by simp [← hvl], rfl, rfl⟩ fun ⟨m, xs, ys, st1, cp1, st2, cp2⟩ ⟨hm, hx, hy, hG1, hG2⟩ => ?_
      dsimp only
      try dsimp only at xs
      try dsimp only at ys
      try dsimp only at st1
      try dsimp only at cp1
      try dsimp only at st2
      try dsimp only at cp2
      try dsimp only at hm
      try dsimp only at hx
      try dsimp only at hy
      try dsimp only at hG1
      try dsimp only at hG2
      repeat refine J.seq ?_
      refine J.plain ?_
      refine JO.t (ob_move rfl) rfl ?_
      refine JO.t (ob_geq rfl rfl) rfl ?_
      refine JO.nil ?_
      repeat (first | refine JX.next ?_ | refine JX.normal_block ?_)
      refine J.sel [2, 3, 7, 8, 9, 10, 34] (.cons rfl (.cons rfl (.cons rfl (.cons rfl (.cons rfl (.cons rfl (.cons rfl .nil))))))) ?_
      repeat refine J.seq ?_
      refine J.cond rfl (fun ht34 => ?_) (fun ht34 => ?_)
      ·
        try simp only [decide_eq_true_eq, decide_eq_false_iff_not] at ht34
        refine J.skip ?_
        repeat (first | refine JX.next ?_ | refine JX.normal_block ?_)
        repeat refine J.seq ?_
        refine J.block ?_
        repeat refine J.seq ?_
        refine J.plain ?_
        refine JO.t (ob_move rfl) rfl ?_
        refine JO.t (ob_move rfl) rfl ?_
        refine JO.t (ob_move rfl) rfl ?_
        refine JO.t (ob_indexAddr el_sl_bind_Col rfl (hla (by omega)) rfl (by omega) (by omega)) rfl ?_
        refine JO.t (ob_loadG (enc := C3.cells) (sz := 3) (len := cols.length) (i := m - 1) (y := cols.getD (m - 1) c3D) (cs := C3.cells (cols.getD (m - 1) c3D)) sz_bind_Col rfl (by simp) (hla (by omega)) (c3_get (by omega)) (by omega) rfl) rfl ?_
        refine JO.t (ob_buildSlice (cs := [_, _, _]) sl_sl_bind_Col (by omega) (by omega) (.cons rfl .nil) rfl rfl rfl) rfl ?_
        have hxl : xs.length ≤ cols.length := by rw [hx]; simp
        have hyl : ys.length ≤ vals.length := by rw [hy]; simp
        refine JO.apP [cols.getD (m - 1) c3D] ap_sl_bind_Col C3.len (by repeat (first | exact .here | apply Cx.past | apply Cx.there)) hG1 rfl rfl (fun L => src_new un_sl_bind_Col rfl rfl) (by simp) (by simp; omega) (by simp; omega) rfl (fun st3 cp3 hG3 => ?_)
        try dsimp only
        refine JO.t (ob_assign rfl) rfl ?_
        refine JO.nil ?_
        repeat (first | refine JX.next ?_ | refine JX.normal_block ?_)
        refine J.sel [2, 3, 7, 8, 9, 10] (.cons rfl (.cons rfl (.cons rfl (.cons rfl (.cons rfl (.cons rfl .nil)))))) ?_
        repeat refine J.seq ?_
        refine J.plain ?_
        refine JO.t (ob_move rfl) rfl ?_
        refine JO.t (ob_move rfl) rfl ?_
        refine JO.t (ob_move rfl) rfl ?_
        refine JO.t (ob_indexAddr el_sl_api_Value rfl (hra (by omega)) rfl (by omega) (by omega)) rfl ?_
        refine JO.t (ob_loadVal (vals := vals) (len := vals.length) (i := m - 1) (v := vals.getD (m - 1) zero3) sz_api_Value rfl (by simp) (hra (by omega)) (vals_get (by omega)) (by omega)) rfl ?_
        refine JO.t (ob_buildSlice (cs := [_, _, _]) sl_sl_api_Value (by omega) (by omega) (.cons rfl .nil) rfl rfl rfl) rfl ?_
        have hyl : ys.length ≤ vals.length := by rw [hy]; simp
        refine JO.apP [vals.getD (m - 1) zero3] ap_sl_api_Value v3_len (by repeat (first | exact .here | apply Cx.past | apply Cx.there)) hG2 rfl rfl (fun L => src_new un_sl_api_Value rfl rfl) (by simp) (by simp; omega) (by simp; omega) rfl (fun st4 cp4 hG4 => ?_)
        try dsimp only
        refine JO.t (ob_assign rfl) rfl ?_
        refine JO.nil ?_
        repeat (first | refine JX.next ?_ | refine JX.normal_block ?_)
        refine J.sel [2, 3, 7, 8, 9, 10] (.cons rfl (.cons rfl (.cons rfl (.cons rfl (.cons rfl (.cons rfl .nil)))))) ?_
        repeat refine J.seq ?_
        refine J.plain ?_
        refine JO.t (ob_move rfl) rfl ?_
        refine JO.t (ob_subc (cc := ((m - 1 : Nat) : Int) - 1) rfl rfl (by omega) (by omega) (by omega)) rfl ?_
        refine JO.t (ob_assign rfl) rfl ?_
        refine JO.nil ?_
        refine JX.roundG (x := ⟨m, xs, ys, st1, cp1, st2, cp2⟩) (m - 1, xs ++ [cols.getD (m - 1) c3D], ys ++ [vals.getD (m - 1) zero3], st3, cp3, st4, cp4) ?_ ?_ [2, 3, 7, 8, 9, 10] ?_ ?_ ?_ ?_
        · exact ⟨by omega, by rw [hx]; exact drop_rev _ (by omega) (by omega), by rw [hy]; exact drop_rev _ (by omega) (by omega), hG3, hG4⟩
        · exact (by simp only; omega)
        · exact (.cons rfl (.cons rfl (.cons rfl (.cons rfl (.cons rfl (.cons rfl .nil))))))
        · repeat (first | exact .all | exact .nil | refine Has.own (by repeat (first | exact .here | apply Tl.past | apply Tl.there)) ?_ | refine Has.cons (by repeat (first | exact .here | apply Pk.past | apply Pk.there)) ?_)
        · exact fun G hG => by repeat (first | exact hG | refine List.mem_cons_of_mem _ ?_)
        · exact fun _ _ _ => fun _ _ => trivial
      ·
        try simp only [decide_eq_true_eq, decide_eq_false_iff_not] at ht34
        repeat refine J.seq ?_
        refine J.exit ?_
        repeat (first | refine JX.hit ?_ | refine JX.miss rfl ?_ | refine JX.exit_pass ?_)
        repeat (first | refine JX.next ?_ | refine JX.normal_block ?_)
        have hm0 : m = 0 := by omega
        subst hm0
        rw [List.drop_zero] at hx hy
        subst hx hy
        refine J.freezeO C3.len hG1 (e := ty_bind_Col) (by repeat (first | exact .here | apply Tl.past | apply Tl.there)) (fun _ h => h) rfl (by first | rfl | (simp only [List.all_cons, ownO_out]; rfl)) ?_
        refine J.freezeO v3_len hG2 (e := ty_api_Value) (by repeat (first | exact .here | apply Tl.past | apply Tl.there)) (fun _ h => h) rfl (by first | rfl | (simp only [List.all_cons, ownO_out]; rfl)) ?_
        repeat refine J.seq ?_
        refine J.plain ?_
        refine JO.t (ob_ldEx sz_api_Expr rfl) rfl ?_
        refine JO.t (ob_move rfl) rfl ?_
        refine JO.t (ob_call rfl (bindOK cols (by omega) x) (.one rfl (.sub rfl (Sub.slFact (by simp)) .nil))) rfl ?_
        refine JO.t (ob_move rfl) rfl ?_
        refine JO.t (ob_extract30 rfl) rfl ?_
        refine JO.openA (s := 55) rfl (fun ka kl kc kb ko hkl hka => ?_)
        subst hkl
        refine JO.t (ob_extract31 rfl) rfl ?_
        refine JO.t (ob_extract32 rfl) rfl ?_
        refine JO.alloc zo_api_Expr rfl fun b11 => ?_
        refine JO.m (obm_store rfl rfl (by repeat (first | exact .here | apply Upd.there)) (by first | exact cnt_is rfl rfl | exact cnt_ex) (by first | exact cnt_is rfl rfl | exact cnt_ex | exact cnt_aggO) ss_api_Expr) (by rfl) ?_
        refine JO.t (ob_assign rfl) rfl ?_
        refine JO.t (ob_assign rfl) rfl ?_
        refine JO.nil ?_
        repeat (first | refine JX.next ?_ | refine JX.normal_block ?_)
        refine J.sel [2, 3, 8, 9, 11, 12, 13] (.cons rfl (.cons rfl (.cons rfl (.cons rfl (.cons rfl (.cons rfl (.cons rfl .nil))))))) ?_
        repeat refine J.seq ?_
        refine J.plain ?_
        refine JO.t (ob_ldEx sz_api_Expr rfl) rfl ?_
        refine JO.t (ob_move rfl) rfl ?_
        refine JO.t (ob_call rfl (bindOK cols.reverse (by simp; omega) x) (.one rfl (.sub rfl (Sub.slO hG1 (by repeat (first | exact List.mem_cons_self | apply List.mem_cons_of_mem))) .nil))) rfl ?_
        refine JO.t (ob_move rfl) rfl ?_
        refine JO.t (ob_extract30 rfl) rfl ?_
        refine JO.openA (s := 62) rfl (fun na nl nc nb no hnl hna => ?_)
        subst hnl
        refine JO.t (ob_extract31 rfl) rfl ?_
        refine JO.t (ob_extract32 rfl) rfl ?_
        refine JO.alloc zo_api_Expr rfl fun b14 => ?_
        refine JO.m (obm_store rfl rfl (by repeat (first | exact .here | apply Upd.there)) (by first | exact cnt_is rfl rfl | exact cnt_ex) (by first | exact cnt_is rfl rfl | exact cnt_ex | exact cnt_aggO) ss_api_Expr) (by rfl) ?_
        refine JO.t (ob_assign rfl) rfl ?_
        refine JO.t (ob_assign rfl) rfl ?_
        refine JO.nil ?_
        repeat (first | refine JX.next ?_ | refine JX.normal_block ?_)
        refine J.sel [2, 9, 11, 12, 13, 14, 15, 16] (.cons rfl (.cons rfl (.cons rfl (.cons rfl (.cons rfl (.cons rfl (.cons rfl (.cons rfl .nil)))))))) ?_
        repeat refine J.seq ?_
        refine J.reg0 hmx (by kernel_rfl) (by kernel_rfl) ?_
        refine RT.t (ob_move rfl) ?_
        refine RT.t (ob_move rfl) ?_
        refine RT.t (ob_neq rfl rfl) ?_
        refine RT.t (ob_move rfl) ?_
        refine RT.g rfl rfl rfl (fun hg => ob_move (.inl rfl)) ?_
        refine RT.g rfl rfl rfl (fun hg => ob_move (.inl rfl)) ?_
        refine RT.g rfl rfl rfl (fun hg => ob_neq (.inr ⟨_, rfl, fun h => h⟩) (.inr ⟨_, rfl, fun h => h⟩)) ?_
        refine RT.t (ob_pickOr rfl rfl rfl id) ?_
        refine RT.nil ?_
        refine FinS.nil0 ?_
        repeat (first | refine JX.next ?_ | refine JX.normal_block ?_)
        refine J.sel [2, 9, 11, 13, 14, 72] (.cons rfl (.cons rfl (.cons rfl (.cons rfl (.cons rfl (.cons rfl .nil)))))) ?_
        repeat refine J.seq ?_
        refine J.cond rfl (fun ht72 => ?_) (fun ht72 => ?_)
        ·
          try simp only [decide_eq_true_eq, decide_eq_false_iff_not] at ht72
          repeat refine J.seq ?_
          refine J.plain ?_
          refine JO.t (ob_assign rfl) rfl ?_
          refine JO.nil ?_
          repeat (first | refine JX.next ?_ | refine JX.normal_block ?_)
          refine J.sel [6] (.cons rfl .nil) ?_
          repeat refine J.seq ?_
          refine J.ret ?_
          repeat (first | refine JX.ret_pass ?_ | refine JX.ret_block ?_)
          exact JX.ret1is rfl rfl (by rw [(bind_moves cols x).1] at ht72; simp at ht72)
        ·
          try simp only [decide_eq_true_eq, decide_eq_false_iff_not] at ht72
          refine J.skip ?_
          repeat (first | refine JX.next ?_ | refine JX.normal_block ?_)
          repeat refine J.seq ?_
          refine J.plain ?_
          refine JO.t (ob_move rfl) rfl ?_
          refine JO.t (ob_neq rfl rfl) rfl ?_
          refine JO.nil ?_
          repeat (first | refine JX.next ?_ | refine JX.normal_block ?_)
          refine J.sel [2, 9, 11, 14, 74] (.cons rfl (.cons rfl (.cons rfl (.cons rfl (.cons rfl .nil))))) ?_
          repeat refine J.seq ?_
          refine J.cond rfl (fun ht74 => ?_) (fun ht74 => ?_)
          ·
            try simp only [decide_eq_true_eq, decide_eq_false_iff_not] at ht74
            repeat refine J.seq ?_
            refine J.reg0 hmx (by kernel_rfl) (by kernel_rfl) ?_
            refine RT.t (ob_fieldAddr fo_api_Expr_5 rfl) ?_
            refine RT.t (ob_ld1 sz_sl_api_Expr rfl rfl) ?_
            refine RT.t (ob_len un_sl_api_Expr rfl) ?_
            refine RT.t (ob_eql rfl rfl) ?_
            refine RT.t (ob_move rfl) ?_
            refine RT.g rfl rfl rfl (fun hg => ob_fieldAddr fo_api_Expr_5 (.inl rfl)) ?_
            refine RT.g rfl rfl rfl (fun hg => ob_ld1 sz_sl_api_Expr (.inr ⟨_, rfl, fun h => h⟩) rfl) ?_
            refine RT.g rfl rfl rfl (fun hg => ob_len un_sl_api_Expr (.inr ⟨_, rfl, fun h => h⟩)) ?_
            refine RT.g rfl rfl rfl (fun hg => ob_eql (.inr ⟨_, rfl, fun h => h⟩) (.inl rfl)) ?_
            refine RT.t (ob_pickAnd rfl rfl rfl id) ?_
            refine RT.t (ob_assign rfl) ?_
            refine RT.nil ?_
            refine FinS.nil0 ?_
            repeat (first | refine JX.next ?_ | refine JX.normal_block ?_)
            refine J.sel [6] (.cons rfl .nil) ?_
            repeat refine J.seq ?_
            refine J.ret ?_
            repeat (first | refine JX.ret_pass ?_ | refine JX.ret_block ?_)
            exact JX.ret1is rfl rfl (by have h0 := (bind_moves cols x).2.2 (by simpa using ht74); rw [h0.1, h0.2]; rfl)
          ·
            try simp only [decide_eq_true_eq, decide_eq_false_iff_not] at ht74
            refine J.skip ?_
            repeat (first | refine JX.next ?_ | refine JX.normal_block ?_)
            repeat refine J.seq ?_
            refine J.plain ?_
            refine JO.t (ob_ldN (cs := [_, _, _, _, _, _, _, _]) sz_api_Expr rfl rfl rfl) rfl ?_
            refine JO.t (ob_move rfl) rfl ?_
            refine JO.t (ob_call rfl (c_expr_Eval vals (bindF cols x).1) (.sub rfl (Sub.fact (by repeat (first | exact List.mem_cons_self | apply List.mem_cons_of_mem))) (.sub rfl (Sub.fact (by repeat (first | exact List.mem_cons_self | apply List.mem_cons_of_mem))) .nil))) rfl ?_
            refine JO.t (ob_move rfl) rfl ?_
            refine JO.t (ob_extract0 rfl) rfl ?_
            refine JO.t (ob_extract1 rfl) rfl ?_
            refine JO.alloc zo_api_Value rfl fun b17 => ?_
            refine JO.m (obm_store rfl rfl (by repeat (first | exact .here | apply Upd.there)) (by first | exact cnt_is rfl rfl | exact cnt_ex) (by first | exact cnt_is rfl rfl | exact cnt_ex | exact cnt_aggO) ss_api_Value) (by rfl) ?_
            refine JO.t (ob_assign rfl) rfl ?_
            refine JO.nil ?_
            repeat (first | refine JX.next ?_ | refine JX.normal_block ?_)
            refine J.sel [9, 14, 17, 18] (.cons rfl (.cons rfl (.cons rfl (.cons rfl .nil)))) ?_
            repeat refine J.seq ?_
            refine J.plain ?_
            refine JO.t (ob_ldN (cs := [_, _, _, _, _, _, _, _]) sz_api_Expr rfl rfl rfl) rfl ?_
            refine JO.t (ob_move rfl) rfl ?_
            refine JO.t (ob_call rfl (c_expr_Eval vals.reverse (bindF cols.reverse x).1) (.sub rfl (Sub.fact (by repeat (first | exact List.mem_cons_self | apply List.mem_cons_of_mem))) (.sub rfl (Sub.rowO hG2 (by repeat (first | exact List.mem_cons_self | apply List.mem_cons_of_mem))) .nil))) rfl ?_
            refine JO.t (ob_move rfl) rfl ?_
            refine JO.t (ob_extract0 rfl) rfl ?_
            refine JO.t (ob_extract1 rfl) rfl ?_
            refine JO.alloc zo_api_Value rfl fun b19 => ?_
            refine JO.m (obm_store rfl rfl (by repeat (first | exact .here | apply Upd.there)) (by first | exact cnt_is rfl rfl | exact cnt_ex) (by first | exact cnt_is rfl rfl | exact cnt_ex | exact cnt_aggO) ss_api_Value) (by rfl) ?_
            refine JO.t (ob_assign rfl) rfl ?_
            refine JO.nil ?_
            repeat (first | refine JX.next ?_ | refine JX.normal_block ?_)
            refine J.sel [17, 18, 19, 20] (.cons rfl (.cons rfl (.cons rfl (.cons rfl .nil)))) ?_
            repeat refine J.seq ?_
            refine J.reg0 hmx (by kernel_rfl) (by kernel_rfl) ?_
            refine RT.t (ob_ldN (cs := [_, _, _]) sz_api_Value rfl rfl rfl) ?_
            refine RT.t (ob_ldN (cs := [_, _, _]) sz_api_Value rfl rfl rfl) ?_
            refine RT.t (ob_veq veq_api_Value rfl rfl) ?_
            refine RT.t (ob_move rfl) ?_
            refine RT.g rfl rfl rfl (fun hg => ob_move (.inl rfl)) ?_
            refine RT.g rfl rfl rfl (fun hg => ob_move (.inl rfl)) ?_
            refine RT.g rfl rfl rfl (fun hg => ob_eql (.inr ⟨_, rfl, fun h => h⟩) (.inr ⟨_, rfl, fun h => h⟩)) ?_
            refine RT.t (ob_pickAnd rfl rfl rfl id) ?_
            refine RT.t (ob_assign rfl) ?_
            refine RT.nil ?_
            refine FinS.nil0 ?_
            repeat (first | refine JX.next ?_ | refine JX.normal_block ?_)
            refine J.sel [6] (.cons rfl .nil) ?_
            repeat refine J.seq ?_
            refine J.ret ?_
            repeat (first | refine JX.ret_pass ?_ | refine JX.ret_block ?_)
            exact JX.ret1is rfl rfl (by rw [moves_eval (x := x) (by simpa using ht74) hvl]; simp [veq, seq_refl'])
end Go.Proofs.Ytjlojkchgfeenaa
