/- What was bound, bound again: what the statement does. No condition. -/
import Derived.Test.YtjlojkchgfeenaaXBT
import Derived.Test.YtjlojkchgfeenaaXBZ
import Derived.Test.YtjlojkchgfeenaaXAW
set_option maxRecDepth 20000
namespace Go.Proofs.Ytjlojkchgfeenaa
open Go Go.Vc
theorem law_twice1 {cols : List C3} {x : Ex} (h0 : (bindF cols x).2.2 = 0) (hg : (bindF [] x).2.2 = 0) :
    ((((((bindF [] (bindF cols x).1).2.2 == 0) && ((bindF cols x).2.1 == (bindF [] (bindF cols x).1).2.1)) && ((bindF cols x).2.1 == (bindF [] x).2.1)) && sameX (bindF cols x).1 (bindF [] (bindF cols x).1).1) && sameX (bindF cols x).1 (bindF [] x).1) = true := by
  rcases (bind_twice cols x h0).1 with ⟨h1, h2⟩ | ⟨h1, h2⟩
  · rw [h2, h1, h0, sameX_refl]; simp
  · rw [hg] at h1; cases h1
theorem law_twice2 {cols : List C3} {x : Ex} (h0 : (bindF cols x).2.2 = 0) (hg : ¬ (bindF [] x).2.2 = 0) :
    ((((((bindF [] (bindF cols x).1).2.2 == 1) && ((bindF [] x).2.2 == 32)) && ((bindF cols x).2.2 == 0)) && ((bindF cols x).2.1 == (bindF cols x).2.1)) && decide (0 < (bindF cols x).1.K)) = true := by
  obtain ⟨h3, h4⟩ := bind_twice cols x h0
  rcases h3 with ⟨h1, h2⟩ | ⟨h1, h2⟩
  · rw [h1] at hg; exact absurd h0 hg
  · rw [h1, h2, h0]; simp [h4]
theorem c_law14_BindTwice (x : Ex) (cols : List C3) (hl : cols.length ≤ 1048576) : CallTy Try.prog f_law14_BindTwice [.rep (ExR x), .rep (SlG C3.cells 3 cols)] (.is (.bool true)) :=
  CallTy.of (fn := Try.f4) Try.func4 (n := 106) rfl rfl rfl (fun _ _ => by kernel_rfl) fun E W => by
  refine J.openA (s := 0) rfl (fun xa xl xc xb xo hxl hxa => ?_)
  refine J.openSl (s := 1) rfl (fun ca cl cc cb co hcl hca => ?_)
  subst hxl hcl
  refine J.mark (fun E0 w0 hW0 hM => ?_)
  repeat refine J.seq ?_
  refine J.plain ?_
  refine JO.box rfl rfl fun b2 => ?_
  refine JO.t (ob_assign rfl) rfl ?_
  refine JO.nil ?_
  repeat (first | refine JX.next ?_ | refine JX.normal_block ?_)
  refine J.sel [1, 2] (.cons rfl (.cons rfl .nil)) ?_
  repeat refine J.seq ?_
  refine J.plain ?_
  refine JO.t (ob_call rfl (c_law14_awake) .nil) rfl ?_
  refine JO.t (ob_not rfl) rfl ?_
  refine JO.nil ?_
  repeat (first | refine JX.next ?_ | refine JX.normal_block ?_)
  refine J.sel [1, 2, 19] (.cons rfl (.cons rfl (.cons rfl .nil))) ?_
  repeat refine J.seq ?_
  refine J.cond rfl (fun ht19 => ?_) (fun ht19 => ?_)
  ·
    try simp only [decide_eq_true_eq, decide_eq_false_iff_not] at ht19
    repeat refine J.seq ?_
    refine J.plain ?_
    refine JO.t (ob_assign rfl) rfl ?_
    refine JO.nil ?_
    repeat (first | refine JX.next ?_ | refine JX.normal_block ?_)
    refine J.sel [4] (.cons rfl .nil) ?_
    repeat refine J.seq ?_
    refine J.ret ?_
    repeat (first | refine JX.ret_pass ?_ | refine JX.ret_block ?_)
    exact JX.ret1is rfl rfl (by simp at ht19)
  ·
    try simp only [decide_eq_true_eq, decide_eq_false_iff_not] at ht19
    refine J.skip ?_
    repeat (first | refine JX.next ?_ | refine JX.normal_block ?_)
    repeat refine J.seq ?_
    refine J.reg0 hmx (by kernel_rfl) (by kernel_rfl) ?_
    refine RT.t (ob_ldN (cs := [_, _, _, _, _, _, _, _]) sz_api_Expr rfl rfl rfl) ?_
    refine RT.t (ob_move rfl) ?_
    refine RT.t (ob_call rfl (c_law14_scope cols hl) (.sub rfl (Sub.slFact (by repeat (first | exact List.mem_cons_self | apply List.mem_cons_of_mem))) .nil)) ?_
    refine RT.t (ob_call rfl (bindN w0.heap.size cols (by omega) x) (.sub rfl (Sub.nex (Sub.fact (by repeat (first | exact List.mem_cons_self | apply List.mem_cons_of_mem))) (by repeat (first | exact List.mem_cons_self | apply List.mem_cons_of_mem))) (.one rfl .nil))) ?_
    refine RT.t (ob_move rfl) ?_
    refine RT.t (ob_extract30 rfl) ?_
    refine RT.t (ob_extract31 rfl) ?_
    refine RT.t (ob_extract32 rfl) ?_
    refine RT.n zc_api_Expr ?_
    refine RT.s 8 rfl rfl rfl rfl (cnt_fex) ss_api_Expr (by simp) ?_
    refine RT.t (ob_assign rfl) ?_
    refine RT.t (ob_assign rfl) ?_
    refine RT.nil ?_
    refine FinS.cons fun b5 => ?_
    refine FinS.nil1 ?_
    repeat (first | refine JX.next ?_ | refine JX.normal_block ?_)
    refine J.sel [1, 2, 5, 6, 7] (.cons rfl (.cons rfl (.cons rfl (.cons rfl (.cons rfl .nil))))) ?_
    refine J.openOwnF (fun ya yl yc hyl => ?_)
    subst hyl
    repeat refine J.seq ?_
    refine J.plain ?_
    refine JO.t (ob_move rfl) rfl ?_
    refine JO.t (ob_neq rfl rfl) rfl ?_
    refine JO.nil ?_
    repeat (first | refine JX.next ?_ | refine JX.normal_block ?_)
    refine J.sel [1, 2, 5, 6, 29] (.cons rfl (.cons rfl (.cons rfl (.cons rfl (.cons rfl .nil))))) ?_
    repeat refine J.seq ?_
    refine J.cond rfl (fun ht29 => ?_) (fun ht29 => ?_)
    ·
      try simp only [decide_eq_true_eq, decide_eq_false_iff_not] at ht29
      repeat refine J.seq ?_
      refine J.plain ?_
      refine JO.t (ob_assign rfl) rfl ?_
      refine JO.nil ?_
      repeat (first | refine JX.next ?_ | refine JX.normal_block ?_)
      refine J.sel [4] (.cons rfl .nil) ?_
      repeat refine J.seq ?_
      refine J.ret ?_
      repeat (first | refine JX.ret_pass ?_ | refine JX.ret_block ?_)
      exact JX.ret1is rfl rfl (by rfl)
    ·
      try simp only [decide_eq_true_eq, decide_eq_false_iff_not] at ht29
      refine J.skip ?_
      repeat (first | refine JX.next ?_ | refine JX.normal_block ?_)
      repeat refine J.seq ?_
      refine J.plain ?_
      refine JO.t (ob_ldN (cs := [_, _, _, _, _, _, _, _]) sz_api_Expr rfl rfl rfl) rfl ?_
      refine JO.t (ob_call rfl (bindOK [] (by simp) (bindF cols x).1) (.sub rfl (Sub.fact (by repeat (first | exact List.mem_cons_self | apply List.mem_cons_of_mem))) (.sub rfl (Sub.slNil) .nil))) rfl ?_
      refine JO.t (ob_move rfl) rfl ?_
      refine JO.t (ob_extract30 rfl) rfl ?_
      refine JO.t (ob_extract31 rfl) rfl ?_
      refine JO.t (ob_extract32 rfl) rfl ?_
      refine JO.alloc zo_api_Expr rfl fun b8 => ?_
      refine JO.m (obm_store rfl rfl (by repeat (first | exact .here | apply Upd.there)) (by first | exact cnt_is rfl rfl | exact cnt_ex) (by first | exact cnt_is rfl rfl | exact cnt_ex | exact cnt_aggO) ss_api_Expr) (by rfl) ?_
      refine JO.t (ob_assign rfl) rfl ?_
      refine JO.t (ob_assign rfl) rfl ?_
      refine JO.nil ?_
      repeat (first | refine JX.next ?_ | refine JX.normal_block ?_)
      refine J.sel [1, 2, 5, 6, 8, 9, 10] (.cons rfl (.cons rfl (.cons rfl (.cons rfl (.cons rfl (.cons rfl (.cons rfl .nil))))))) ?_
      repeat refine J.seq ?_
      refine J.plain ?_
      refine JO.t (ob_ldN (cs := [_, _, _, _, _, _, _, _]) sz_api_Expr rfl rfl rfl) rfl ?_
      refine JO.t (ob_call rfl (bindOK [] (by simp) x) (.sub rfl (Sub.fact (by repeat (first | exact List.mem_cons_self | apply List.mem_cons_of_mem))) (.sub rfl (Sub.slNil) .nil))) rfl ?_
      refine JO.t (ob_move rfl) rfl ?_
      refine JO.t (ob_extract30 rfl) rfl ?_
      refine JO.t (ob_extract31 rfl) rfl ?_
      refine JO.t (ob_extract32 rfl) rfl ?_
      refine JO.alloc zo_api_Expr rfl fun b11 => ?_
      refine JO.m (obm_store rfl rfl (by repeat (first | exact .here | apply Upd.there)) (by first | exact cnt_is rfl rfl | exact cnt_ex) (by first | exact cnt_is rfl rfl | exact cnt_ex | exact cnt_aggO) ss_api_Expr) (by rfl) ?_
      refine JO.t (ob_assign rfl) rfl ?_
      refine JO.t (ob_assign rfl) rfl ?_
      refine JO.nil ?_
      repeat (first | refine JX.next ?_ | refine JX.normal_block ?_)
      refine J.sel [1, 2, 5, 6, 8, 9, 10, 11, 12, 13] (.cons rfl (.cons rfl (.cons rfl (.cons rfl (.cons rfl (.cons rfl (.cons rfl (.cons rfl (.cons rfl (.cons rfl .nil)))))))))) ?_
      repeat refine J.seq ?_
      refine J.plain ?_
      refine JO.t (ob_move rfl) rfl ?_
      refine JO.t (ob_eql rfl rfl) rfl ?_
      refine JO.nil ?_
      repeat (first | refine JX.next ?_ | refine JX.normal_block ?_)
      refine J.sel [1, 2, 5, 6, 8, 9, 10, 11, 12, 13, 43] (.cons rfl (.cons rfl (.cons rfl (.cons rfl (.cons rfl (.cons rfl (.cons rfl (.cons rfl (.cons rfl (.cons rfl (.cons rfl .nil))))))))))) ?_
      repeat refine J.seq ?_
      refine J.cond rfl (fun ht43 => ?_) (fun ht43 => ?_)
      ·
        try simp only [decide_eq_true_eq, decide_eq_false_iff_not] at ht43
        repeat refine J.seq ?_
        refine J.reg0 hmx (by kernel_rfl) (by kernel_rfl) ?_
        refine RT.t (ob_move rfl) ?_
        refine RT.t (ob_eql rfl rfl) ?_
        refine RT.t (ob_move rfl) ?_
        refine RT.g rfl rfl rfl (fun hg => ob_move (.inl rfl)) ?_
        refine RT.g rfl rfl rfl (fun hg => ob_move (.inl rfl)) ?_
        refine RT.g rfl rfl rfl (fun hg => ob_eql (.inr ⟨_, rfl, fun h => h⟩) (.inr ⟨_, rfl, fun h => h⟩)) ?_
        refine RT.t (ob_pickAnd rfl rfl rfl id) ?_
        refine RT.t (ob_move rfl) ?_
        refine RT.g rfl rfl rfl (fun hg => ob_move (.inl rfl)) ?_
        refine RT.g rfl rfl rfl (fun hg => ob_move (.inl rfl)) ?_
        refine RT.g rfl rfl rfl (fun hg => ob_eql (.inr ⟨_, rfl, fun h => h⟩) (.inr ⟨_, rfl, fun h => h⟩)) ?_
        refine RT.t (ob_pickAnd rfl rfl rfl id) ?_
        refine RT.t (ob_move rfl) ?_
        refine RT.g rfl rfl rfl (fun hg => ob_ldN (cs := [_, _, _, _, _, _, _, _]) sz_api_Expr (.inl rfl) rfl rfl) ?_
        refine RT.g rfl rfl rfl (fun hg => ob_ldEx sz_api_Expr (.inl rfl)) ?_
        refine RT.g rfl rfl rfl (fun hg => ob_call (.inl rfl) (sameOK (bindF cols x).1 (bind_len cols x) _) (.sub (.inr ⟨_, rfl, fun h => h⟩) (Sub.fact (by repeat (first | exact List.mem_cons_self | apply List.mem_cons_of_mem))) (.one (.inr ⟨_, rfl, fun h => h⟩) .nil))) ?_
        refine RT.t (ob_pickAnd rfl rfl rfl id) ?_
        refine RT.t (ob_move rfl) ?_
        refine RT.g rfl rfl rfl (fun hg => ob_ldN (cs := [_, _, _, _, _, _, _, _]) sz_api_Expr (.inl rfl) rfl rfl) ?_
        refine RT.g rfl rfl rfl (fun hg => ob_ldEx sz_api_Expr (.inl rfl)) ?_
        refine RT.g rfl rfl rfl (fun hg => ob_call (.inl rfl) (sameOK (bindF cols x).1 (bind_len cols x) _) (.sub (.inr ⟨_, rfl, fun h => h⟩) (Sub.fact (by repeat (first | exact List.mem_cons_self | apply List.mem_cons_of_mem))) (.one (.inr ⟨_, rfl, fun h => h⟩) .nil))) ?_
        refine RT.t (ob_pickAnd rfl rfl rfl id) ?_
        refine RT.t (ob_assign rfl) ?_
        refine RT.nil ?_
        refine FinS.nil0 ?_
        repeat (first | refine JX.next ?_ | refine JX.normal_block ?_)
        refine J.sel [4] (.cons rfl .nil) ?_
        repeat refine J.seq ?_
        refine J.ret ?_
        repeat (first | refine JX.ret_pass ?_ | refine JX.ret_block ?_)
        exact JX.ret1is rfl rfl (congrArg Value.bool (law_twice1 (by simpa using ht29) (by simpa using ht43)))
      ·
        try simp only [decide_eq_true_eq, decide_eq_false_iff_not] at ht43
        refine J.skip ?_
        repeat (first | refine JX.next ?_ | refine JX.normal_block ?_)
        repeat refine J.seq ?_
        refine J.plain ?_
        refine JO.t (ob_assign rfl) rfl ?_
        refine JO.nil ?_
        repeat (first | refine JX.next ?_ | refine JX.normal_block ?_)
        refine J.sel [1, 2, 5, 6, 10, 13, 14] (.cons rfl (.cons rfl (.cons rfl (.cons rfl (.cons rfl (.cons rfl (.cons rfl .nil))))))) ?_
        repeat refine J.seq ?_
        have kidsN : (bindF cols x).1.KS.length ≤ 9223372036854775806 := by have h := bind_len cols x; rw [Ex.eta (bindF cols x).1, exLen] at h; exact h.1
        refine J.claimO (L' := [⟨b5, ty_api_Expr, .is (.agg (exCells (bindF cols x).1.K (bindF cols x).1.VK (bindF cols x).1.VN (bindF cols x).1.VS (bindF cols x).1.TB (bindF cols x).1.NM (bindF cols x).1.SL ya (bindF cols x).1.KS.length yc).toArray)⟩, ⟨b2, ty_api_Expr, .is (.agg (exCells x.K x.VK x.VN x.VS x.TB x.NM x.SL xa x.KS.length xc).toArray)⟩]) hW0 hM (fun _ _ h => h) rfl (by repeat (first | exact .nil | refine Has.own (by repeat (first | exact .here | apply Tl.past | apply Tl.there)) ?_ | refine Has.cons (by repeat (first | exact .here | apply Pk.past | apply Pk.there)) ?_)) rfl (e := ty_api_Expr) (a := ya) (kids := (bindF cols x).1.KS) (n := (bindF cols x).1.KS.length) (by repeat (first | exact List.mem_cons_self | apply List.mem_cons_of_mem)) (by repeat (first | exact List.mem_cons_self | apply List.mem_cons_of_mem)) (by repeat (first | exact List.mem_cons_self | apply List.mem_cons_of_mem)) (fun st0 hst0 => ?_)
        refine J.block ?_
        repeat refine J.seq ?_
        refine J.loopG (α := Nat × Option (Nat × List Value)) (fun s => [(1, .is (.slice ca cols.length cc)), (2, .is (.pointer (some ⟨b2, 0, none⟩))), (5, .is (.pointer (some ⟨b5, 0, none⟩))), (6, .is (.int .i64 (bindF cols x).2.1)), (10, .is (.int .i64 (bindF [] (bindF cols x).1).2.2)), (13, .is (.int .i64 (bindF [] x).2.2)), (14, .is (.int .i64 (s.1 : Nat)))]) (fun s => ownO s.2 ty_api_Expr [⟨b5, ty_api_Expr, .is (.agg (exCells (bindF cols x).1.K (bindF cols x).1.VK (bindF cols x).1.VN (bindF cols x).1.VS (bindF cols x).1.TB (bindF cols x).1.NM (bindF cols x).1.SL ya (bindF cols x).1.KS.length yc).toArray)⟩, ⟨b2, ty_api_Expr, .is (.agg (exCells x.K x.VK x.VN x.VS x.TB x.NM x.SL xa x.KS.length xc).toArray)⟩]) (fun s => fun _ => True) (fun s => s.1 ≤ (bindF cols x).1.KS.length ∧ ((bindF cols x).1.KS.length ≠ 0 → ∃ b cs, s.2 = some (b, cs) ∧ ya = some ⟨b, 0, none⟩ ∧ (bindF cols x).1.KS.length * 8 ≤ cs.length)) (fun s => (bindF cols x).1.KS.length - s.1) (0, st0) [1, 2, 5, 6, 10, 13, 14] (.cons rfl (.cons rfl (.cons rfl (.cons rfl (.cons rfl (.cons rfl (.cons rfl .nil))))))) rfl (fun _ => trivial) ⟨Nat.zero_le _, hst0⟩ fun ⟨i, st⟩ ⟨hi, hst⟩ => ?_
        dsimp only
        try dsimp only at st
        try dsimp only at hi
        try dsimp only at hst
        repeat refine J.seq ?_
        refine J.plain ?_
        refine JO.t (ob_move rfl) rfl ?_
        refine JO.t (ob_fieldAddr fo_api_Expr_5 rfl) rfl ?_
        refine JO.t (ob_ld1 sz_sl_api_Expr rfl rfl) rfl ?_
        refine JO.t (ob_len un_sl_api_Expr rfl) rfl ?_
        refine JO.t (ob_lss rfl rfl) rfl ?_
        refine JO.nil ?_
        repeat (first | refine JX.next ?_ | refine JX.normal_block ?_)
        refine J.sel [1, 2, 5, 6, 10, 13, 14, 70] (.cons rfl (.cons rfl (.cons rfl (.cons rfl (.cons rfl (.cons rfl (.cons rfl (.cons rfl .nil)))))))) ?_
        repeat refine J.seq ?_
        refine J.cond rfl (fun ht70 => ?_) (fun ht70 => ?_)
        ·
          try simp only [decide_eq_true_eq, decide_eq_false_iff_not] at ht70
          refine J.skip ?_
          repeat (first | refine JX.next ?_ | refine JX.normal_block ?_)
          repeat refine J.seq ?_
          refine J.block ?_
          obtain ⟨kb, ccs, hst1, hca2, hcl2⟩ := hst (by omega)
          subst hst1
          dsimp only [ownO]
          repeat refine J.seq ?_
          refine J.plain ?_
          refine JO.t (ob_fieldAddr fo_api_Expr_5 rfl) rfl ?_
          refine JO.t (ob_ld1 sz_sl_api_Expr rfl rfl) rfl ?_
          refine JO.t (ob_move rfl) rfl ?_
          refine JO.t (ob_build (cs := [_, _, _, _, _, _, _, _]) sh_api_Expr .nil rfl rfl) rfl ?_
          refine JO.t (ob_indexAddr el_sl_api_Expr rfl hca2 rfl (by omega) (by omega)) rfl ?_
          refine JO.m (obm_storeF (n := 8) (cs := ccs) (cs' := splice ccs (0 + ((i : Nat) : Int).toNat * 8) [.int .i64 0, .int .i64 0, .int .i64 0, .string ⟨#[]⟩, .string ⟨#[]⟩, .string ⟨#[]⟩, .int .i64 0, .slice none 0 0]) rfl rfl .here rfl rfl rfl (by rw [Nat.ble_eq]; omega) ss_api_Expr) (by rfl) ?_
          refine JO.nil ?_
          repeat (first | refine JX.next ?_ | refine JX.normal_block ?_)
          refine J.sel [1, 2, 5, 6, 10, 13, 14] (.cons rfl (.cons rfl (.cons rfl (.cons rfl (.cons rfl (.cons rfl (.cons rfl .nil))))))) ?_
          repeat refine J.seq ?_
          refine J.plain ?_
          refine JO.t (ob_move rfl) rfl ?_
          refine JO.t (ob_addc (cc := ((i + 1 : Nat) : Int)) rfl rfl (by omega) (by have := kidsN; omega) (by have := kidsN; omega)) rfl ?_
          refine JO.t (ob_assign rfl) rfl ?_
          refine JO.nil ?_
          refine JX.roundG (x := (i, none)) (i + 1, some (kb, splice ccs (0 + ((i : Nat) : Int).toNat * 8) [.int .i64 0, .int .i64 0, .int .i64 0, .string ⟨#[]⟩, .string ⟨#[]⟩, .string ⟨#[]⟩, .int .i64 0, .slice none 0 0])) ?_ ?_ [1, 2, 5, 6, 10, 13, 14] ?_ ?_ ?_ ?_
          · exact ⟨by omega, fun _ => ⟨kb, _, rfl, hca2, by rw [splice_len (by simp; omega)]; omega⟩⟩
          · exact (by simp only; omega)
          · exact (.cons rfl (.cons rfl (.cons rfl (.cons rfl (.cons rfl (.cons rfl (.cons rfl .nil)))))))
          · repeat (first | exact .all | exact .nil | refine Has.own (by repeat (first | exact .here | apply Tl.past | apply Tl.there)) ?_ | refine Has.cons (by repeat (first | exact .here | apply Pk.past | apply Pk.there)) ?_)
          · exact fun G hG => by repeat (first | exact hG | refine List.mem_cons_of_mem _ ?_)
          · exact fun _ _ _ => fun _ _ => trivial
        ·
          try simp only [decide_eq_true_eq, decide_eq_false_iff_not] at ht70
          repeat refine J.seq ?_
          refine J.exit ?_
          repeat (first | refine JX.hit ?_ | refine JX.miss rfl ?_ | refine JX.exit_pass ?_)
          repeat (first | refine JX.next ?_ | refine JX.normal_block ?_)
          repeat refine J.seq ?_
          refine J.reg0 hmx (by kernel_rfl) (by kernel_rfl) ?_
          refine RT.t (ob_ldN (cs := [_, _, _, _, _, _, _, _]) sz_api_Expr rfl rfl rfl) ?_
          refine RT.t (ob_move rfl) ?_
          refine RT.t (ob_call rfl (c_law14_scope cols hl) (.sub rfl (Sub.slFact (by repeat (first | exact List.mem_cons_self | apply List.mem_cons_of_mem))) .nil)) ?_
          refine RT.t (ob_call rfl (bindOK cols (by omega) x) (.sub rfl (Sub.fact (by repeat (first | exact List.mem_cons_self | apply List.mem_cons_of_mem))) (.one rfl .nil))) ?_
          refine RT.t (ob_move rfl) ?_
          refine RT.t (ob_extract30 rfl) ?_
          refine RT.t (ob_extract31 rfl) ?_
          refine RT.t (ob_extract32 rfl) ?_
          refine RT.n zc_api_Expr ?_
          refine RT.s 8 rfl rfl rfl rfl cnt_ex ss_api_Expr (by simp) ?_
          refine RT.t (ob_assign rfl) ?_
          refine RT.t (ob_assign rfl) ?_
          refine RT.nil ?_
          refine FinS.cons fun b15 => ?_
          refine FinS.nil1 ?_
          repeat (first | refine JX.next ?_ | refine JX.normal_block ?_)
          refine J.sel [6, 10, 13, 15, 16, 17] (.cons rfl (.cons rfl (.cons rfl (.cons rfl (.cons rfl (.cons rfl .nil)))))) ?_
          refine J.openOwnE (fun za zl zc hzl => ?_)
          subst hzl
          repeat refine J.seq ?_
          refine J.reg0 hmx (by kernel_rfl) (by kernel_rfl) ?_
          refine RT.t (ob_move rfl) ?_
          refine RT.t (ob_eql rfl rfl) ?_
          refine RT.t (ob_move rfl) ?_
          refine RT.g rfl rfl rfl (fun hg => ob_move (.inl rfl)) ?_
          refine RT.g rfl rfl rfl (fun hg => ob_eql (.inr ⟨_, rfl, fun h => h⟩) (.inl rfl)) ?_
          refine RT.t (ob_pickAnd rfl rfl rfl id) ?_
          refine RT.t (ob_move rfl) ?_
          refine RT.g rfl rfl rfl (fun hg => ob_move (.inl rfl)) ?_
          refine RT.g rfl rfl rfl (fun hg => ob_eql (.inr ⟨_, rfl, fun h => h⟩) (.inl rfl)) ?_
          refine RT.t (ob_pickAnd rfl rfl rfl id) ?_
          refine RT.t (ob_move rfl) ?_
          refine RT.g rfl rfl rfl (fun hg => ob_move (.inl rfl)) ?_
          refine RT.g rfl rfl rfl (fun hg => ob_move (.inl rfl)) ?_
          refine RT.g rfl rfl rfl (fun hg => ob_eql (.inr ⟨_, rfl, fun h => h⟩) (.inr ⟨_, rfl, fun h => h⟩)) ?_
          refine RT.t (ob_pickAnd rfl rfl rfl id) ?_
          refine RT.t (ob_move rfl) ?_
          refine RT.g rfl rfl rfl (fun hg => ob_fieldAddr fo_api_Expr_0 (.inl rfl)) ?_
          refine RT.g rfl rfl rfl (fun hg => ob_ld1 sz_int (.inr ⟨_, rfl, fun h => h⟩) rfl) ?_
          refine RT.g rfl rfl rfl (fun hg => ob_gtr (.inr ⟨_, rfl, fun h => h⟩) (.inl rfl)) ?_
          refine RT.t (ob_pickAnd rfl rfl rfl id) ?_
          refine RT.t (ob_assign rfl) ?_
          refine RT.nil ?_
          refine FinS.nil0 ?_
          repeat (first | refine JX.next ?_ | refine JX.normal_block ?_)
          refine J.sel [4] (.cons rfl .nil) ?_
          repeat refine J.seq ?_
          refine J.ret ?_
          repeat (first | refine JX.ret_pass ?_ | refine JX.ret_block ?_)
          exact JX.ret1is rfl rfl (congrArg Value.bool (law_twice2 (by simpa using ht29) (by simpa using ht43)))
end Go.Proofs.Ytjlojkchgfeenaa
