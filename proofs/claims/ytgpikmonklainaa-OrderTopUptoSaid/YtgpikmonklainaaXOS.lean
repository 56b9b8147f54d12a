/- order: the law of sorting. No condition. -/
import Derived.Test.YtgpikmonklainaaXAW
import Derived.Test.YtgpikmonklainaaXOJ
set_option maxRecDepth 20000
namespace Go.Proofs.Ytgpikmonklainaa
open Go Go.Vc
open Go.Vl Go.Od
theorem c_law15_OrderSorts (rows keys : List (List V3)) (dn : List Bool) (limit : Int) (hn : rows.length ≤ 1048576) (hnk : keys.length ≤ 1048576) (hR : ∀ r ∈ rows, r.length ≤ 1048576) (hK : ∀ r ∈ keys, r.length ≤ 1048576) (hdn : dn.length ≤ 1048576) : CallTy Try.prog f_law15_OrderSorts [.rep (AskS rows keys dn limit)] (.is (.bool true)) :=
  CallTy.of (fn := Try.f3) Try.func3 (n := 93) rfl rfl rfl (fun _ _ => by kernel_rfl) fun E W => by
  refine J.openAskS (s := 0) rfl (fun rps ra rl rc rb ro kps ka kl kc kb ko da dl dc db dof hrm hrl hrc hra hkm hkl hkc hka hdl hdc hda => ?_)
  subst hdl hrl hkl
  refine J.bigger (N := 0) (Nat.zero_le _) ?_
  repeat refine J.seq ?_
  refine J.plain ?_
  refine JO.box rfl rfl fun b1 => ?_
  refine JO.t (ob_assign rfl) rfl ?_
  refine JO.nil ?_
  repeat (first | refine JX.next ?_ | refine JX.normal_block ?_)
  refine J.sel [1] (.cons rfl .nil) ?_
  repeat refine J.seq ?_
  refine J.plain ?_
  refine JO.t (ob_call rfl c_law15_awake .nil) rfl ?_
  refine JO.t (ob_not rfl) rfl ?_
  refine JO.nil ?_
  repeat (first | refine JX.next ?_ | refine JX.normal_block ?_)
  refine J.sel [1, 9] (.cons rfl (.cons rfl .nil)) ?_
  repeat refine J.seq ?_
  refine J.cond rfl (fun ht9 => ?_) (fun ht9 => ?_)
  ·
    try simp only [decide_eq_true_eq, decide_eq_false_iff_not] at ht9
    exfalso
    simp at ht9
  ·
    try simp only [decide_eq_true_eq, decide_eq_false_iff_not] at ht9
    refine J.skip ?_
    repeat (first | refine JX.next ?_ | refine JX.normal_block ?_)
    repeat refine J.seq ?_
    refine J.plain ?_
    refine JO.t (ob_fieldAddr fo_cadastrelaw15_Ask_0 rfl) rfl ?_
    refine JO.t (ob_ld1 sz_sl_sl_api_Value rfl rfl) rfl ?_
    refine JO.t (ob_fieldAddr fo_cadastrelaw15_Ask_1 rfl) rfl ?_
    refine JO.t (ob_ld1 sz_sl_sl_api_Value rfl rfl) rfl ?_
    refine JO.t (ob_fieldAddr fo_cadastrelaw15_Ask_2 rfl) rfl ?_
    refine JO.t (ob_ld1 sz_sl_bool rfl rfl) rfl ?_
    refine JO.t (ob_fieldAddr fo_cadastrelaw15_Ask_3 rfl) rfl ?_
    refine JO.t (ob_ld1 sz_int rfl rfl) rfl ?_
    refine JO.t (ob_call rfl (c_order_Top 0 rows keys dn limit hn hR hK hdn) (.sub rfl (Sub.rowsF (rps := rps) (by repeat (first | exact List.mem_cons_self | apply List.mem_cons_of_mem)) (by repeat (first | exact List.mem_cons_self | apply List.mem_cons_of_mem)) hrc hrm) (.sub rfl (Sub.rowsF (rps := kps) (by repeat (first | exact List.mem_cons_self | apply List.mem_cons_of_mem)) (by repeat (first | exact List.mem_cons_self | apply List.mem_cons_of_mem)) hkc hkm) (.sub rfl (Sub.nsl (Sub.slFactC (by repeat (first | exact List.mem_cons_self | apply List.mem_cons_of_mem)) hdc) (by repeat (first | exact List.mem_cons_self | apply List.mem_cons_of_mem))) (.one rfl .nil))))) rfl ?_
    refine JO.t (ob_move rfl) rfl ?_
    refine JO.t (ob_extract0 rfl) rfl ?_
    refine JO.t (ob_extract1 rfl) rfl ?_
    refine JO.t (ob_assign rfl) rfl ?_
    refine JO.t (ob_assign rfl) rfl ?_
    refine JO.nil ?_
    repeat (first | refine JX.next ?_ | refine JX.normal_block ?_)
    refine J.sel [1, 3, 4] (.cons rfl (.cons rfl (.cons rfl .nil))) ?_
    repeat refine J.seq ?_
    refine J.plain ?_
    refine JO.t (ob_fieldAddr fo_cadastrelaw15_Ask_0 rfl) rfl ?_
    refine JO.t (ob_ld1 sz_sl_sl_api_Value rfl rfl) rfl ?_
    refine JO.t (ob_fieldAddr fo_cadastrelaw15_Ask_1 rfl) rfl ?_
    refine JO.t (ob_ld1 sz_sl_sl_api_Value rfl rfl) rfl ?_
    refine JO.t (ob_fieldAddr fo_cadastrelaw15_Ask_2 rfl) rfl ?_
    refine JO.t (ob_ld1 sz_sl_bool rfl rfl) rfl ?_
    refine JO.t (ob_fieldAddr fo_cadastrelaw15_Ask_3 rfl) rfl ?_
    refine JO.t (ob_ld1 sz_int rfl rfl) rfl ?_
    refine JO.t (ob_call rfl (c_ref15_Top rows keys dn limit hn hR hK hdn) (.sub rfl (Sub.rowsF (rps := rps) (by repeat (first | exact List.mem_cons_self | apply List.mem_cons_of_mem)) (by repeat (first | exact List.mem_cons_self | apply List.mem_cons_of_mem)) hrc hrm) (.sub rfl (Sub.rowsF (rps := kps) (by repeat (first | exact List.mem_cons_self | apply List.mem_cons_of_mem)) (by repeat (first | exact List.mem_cons_self | apply List.mem_cons_of_mem)) hkc hkm) (.sub rfl (Sub.slFact (by repeat (first | exact List.mem_cons_self | apply List.mem_cons_of_mem))) (.one rfl .nil))))) rfl ?_
    refine JO.t (ob_move rfl) rfl ?_
    refine JO.t (ob_extract0 rfl) rfl ?_
    refine JO.t (ob_extract1 rfl) rfl ?_
    refine JO.t (ob_assign rfl) rfl ?_
    refine JO.t (ob_assign rfl) rfl ?_
    refine JO.nil ?_
    repeat (first | refine JX.next ?_ | refine JX.normal_block ?_)
    refine J.sel [3, 4, 5, 6] (.cons rfl (.cons rfl (.cons rfl (.cons rfl .nil)))) ?_
    repeat refine J.seq ?_
    refine J.reg0 hmx (by kernel_rfl) (by kernel_rfl) ?_
    refine RT.t (ob_move rfl) ?_
    refine RT.t (ob_move rfl) ?_
    refine RT.t (ob_neq rfl rfl) ?_
    refine RT.t (ob_move rfl) ?_
    refine RT.g rfl rfl rfl (fun hg => ob_move (.inl rfl)) ?_
    refine RT.g rfl rfl rfl (fun hg => ob_move (.inl rfl)) ?_
    refine RT.g rfl rfl rfl (fun hg => ob_call (.inl rfl) (c_ref15_Same (topO rows keys dn limit) (topO rows keys dn limit) (by have := topO_len (rows := rows) (keys := keys) (dn := dn) (limit := limit); omega) (fun x hx => by have := hR x (topO_mem hx); omega)) (.sub (.inr ⟨_, rfl, fun h => h⟩) Sub.rowsW (.one (.inr ⟨_, rfl, fun h => h⟩) .nil))) ?_
    refine RT.g rfl rfl rfl (fun hg => ob_not (.inr ⟨_, rfl, fun h => h⟩)) ?_
    refine RT.t (ob_pickOr rfl rfl rfl id) ?_
    refine RT.nil ?_
    refine FinS.nil0 ?_
    repeat (first | refine JX.next ?_ | refine JX.normal_block ?_)
    refine J.sel [3, 42] (.cons rfl (.cons rfl .nil)) ?_
    repeat refine J.seq ?_
    refine J.cond rfl (fun ht42 => ?_) (fun ht42 => ?_)
    ·
      try simp only [decide_eq_true_eq, decide_eq_false_iff_not] at ht42
      exfalso
      simp [(sameR_iff _ _).2 rfl] at ht42
    ·
      try simp only [decide_eq_true_eq, decide_eq_false_iff_not] at ht42
      refine J.skip ?_
      repeat (first | refine JX.next ?_ | refine JX.normal_block ?_)
      refine J.openRows (s := 3) rfl (fun ps pa pl pc pb po hpm hpl hpc hpa => ?_)
      subst hpl
      have hpr : ∀ p ∈ ps, p.row.length ≤ 9223372036854775806 := fun p hp => by
        have h := List.mem_map_of_mem (f := RV.row) hp
        rw [hpm] at h
        have := hR _ (topO_mem h)
        omega
      have hpn : ps.length ≤ 1048576 := by
        have h := congrArg List.length hpm
        rw [List.length_map] at h
        have := topO_len (rows := rows) (keys := keys) (dn := dn) (limit := limit)
        omega
      repeat refine J.seq ?_
      refine J.plain ?_
      refine JO.t (ob_assign rfl) rfl ?_
      refine JO.nil ?_
      repeat (first | refine JX.next ?_ | refine JX.normal_block ?_)
      refine J.sel [3, 7] (.cons rfl (.cons rfl .nil)) ?_
      repeat refine J.seq ?_
      refine J.block ?_
      repeat refine J.seq ?_
      refine J.loopF (α := Nat) (fun i => [(3, .is (.slice pa ps.length pc)), (7, .is (.int .i64 (i : Nat)))]) (fun i => 1 ≤ i) (fun i => ps.length - i) 1 [3, 7] (.cons rfl (.cons rfl .nil)) (Nat.le_refl _) fun i hi => ?_
      repeat refine J.seq ?_
      refine J.plain ?_
      refine JO.t (ob_move rfl) rfl ?_
      refine JO.t (ob_move rfl) rfl ?_
      refine JO.t (ob_len un_sl_sl_api_Value rfl) rfl ?_
      refine JO.t (ob_lss rfl rfl) rfl ?_
      refine JO.nil ?_
      repeat (first | refine JX.next ?_ | refine JX.normal_block ?_)
      refine J.sel [3, 7, 46] (.cons rfl (.cons rfl (.cons rfl .nil))) ?_
      repeat refine J.seq ?_
      refine J.cond rfl (fun ht46 => ?_) (fun ht46 => ?_)
      ·
        try simp only [decide_eq_true_eq, decide_eq_false_iff_not] at ht46
        refine J.skip ?_
        repeat (first | refine JX.next ?_ | refine JX.normal_block ?_)
        repeat refine J.seq ?_
        refine J.block ?_
        repeat refine J.seq ?_
        refine J.reg0 hmx (by kernel_rfl) (by kernel_rfl) ?_
        refine RT.t (ob_move rfl) ?_
        refine RT.t (ob_move rfl) ?_
        refine RT.t (ob_subc (cc := ((i - 1 : Nat) : Int)) rfl rfl (by omega) (by omega) (by omega)) ?_
        refine RT.t (ob_indexAddr el_sl_sl_api_Value rfl (hpa (by omega)) rfl (by omega) (by omega)) ?_
        refine RT.t (ob_loadG1 (enc := RV.c) (sz := 1) (i := i - 1) (j := 0) (y := ps.getD (i - 1) rv0) (u := (ps.getD (i - 1) rv0).v) sz_sl_api_Value rfl (by repeat (first | exact List.mem_cons_self | apply List.mem_cons_of_mem)) (hpa (by omega)) (getD_some (by omega)) (by omega) rfl) ?_
        refine RT.t (ob_move rfl) ?_
        refine RT.t (ob_move rfl) ?_
        refine RT.t (ob_indexAddr el_sl_sl_api_Value rfl (hpa (by omega)) rfl (by omega) (by omega)) ?_
        refine RT.t (ob_loadG1 (enc := RV.c) (sz := 1) (i := i) (j := 0) (y := ps.getD (i) rv0) (u := (ps.getD (i) rv0).v) sz_sl_api_Value rfl (by repeat (first | exact List.mem_cons_self | apply List.mem_cons_of_mem)) (hpa (by omega)) (getD_some (by omega)) (by omega) rfl) ?_
        refine RT.t (ob_call rfl (c_order_Rows (ps.getD (i - 1) rv0).row (ps.getD (i) rv0).row (hpr _ (getD_mem (by omega)))) (.sub rfl (Sub.rvS (p := ps.getD (i - 1) rv0) (getD_mem (by omega)) (by repeat (first | exact List.mem_cons_self | apply List.mem_cons_of_mem))) (.sub rfl (Sub.rvS (p := ps.getD (i) rv0) (getD_mem (by omega)) (by repeat (first | exact List.mem_cons_self | apply List.mem_cons_of_mem))) .nil))) ?_
        refine RT.t (ob_move rfl) ?_
        refine RT.t (ob_move rfl) ?_
        refine RT.t (ob_subc (cc := ((i - 1 : Nat) : Int)) rfl rfl (by omega) (by omega) (by omega)) ?_
        refine RT.t (ob_indexAddr el_sl_sl_api_Value rfl (hpa (by omega)) rfl (by omega) (by omega)) ?_
        refine RT.t (ob_loadG1 (enc := RV.c) (sz := 1) (i := i - 1) (j := 0) (y := ps.getD (i - 1) rv0) (u := (ps.getD (i - 1) rv0).v) sz_sl_api_Value rfl (by repeat (first | exact List.mem_cons_self | apply List.mem_cons_of_mem)) (hpa (by omega)) (getD_some (by omega)) (by omega) rfl) ?_
        refine RT.t (ob_move rfl) ?_
        refine RT.t (ob_move rfl) ?_
        refine RT.t (ob_indexAddr el_sl_sl_api_Value rfl (hpa (by omega)) rfl (by omega) (by omega)) ?_
        refine RT.t (ob_loadG1 (enc := RV.c) (sz := 1) (i := i) (j := 0) (y := ps.getD (i) rv0) (u := (ps.getD (i) rv0).v) sz_sl_api_Value rfl (by repeat (first | exact List.mem_cons_self | apply List.mem_cons_of_mem)) (hpa (by omega)) (getD_some (by omega)) (by omega) rfl) ?_
        refine RT.t (ob_call rfl (c_ref15_Rows (ps.getD (i - 1) rv0).row (ps.getD (i) rv0).row (hpr _ (getD_mem (by omega)))) (.sub rfl (Sub.rvS (p := ps.getD (i - 1) rv0) (getD_mem (by omega)) (by repeat (first | exact List.mem_cons_self | apply List.mem_cons_of_mem))) (.sub rfl (Sub.rvS (p := ps.getD (i) rv0) (getD_mem (by omega)) (by repeat (first | exact List.mem_cons_self | apply List.mem_cons_of_mem))) .nil))) ?_
        refine RT.t (ob_neq rfl rfl) ?_
        refine RT.t (ob_move rfl) ?_
        refine RT.g rfl rfl rfl (fun hg => ob_move (.inl rfl)) ?_
        refine RT.g rfl rfl rfl (fun hg => ob_move (.inl rfl)) ?_
        refine RT.g rfl rfl rfl (fun hg => ob_indexAddr el_sl_sl_api_Value (.inr ⟨_, rfl, fun h => h⟩) (hpa (by omega)) (.inr ⟨_, rfl, fun h => h⟩) (by omega) (by omega)) ?_
        refine RT.g rfl rfl rfl (fun hg => ob_loadG1 (enc := RV.c) (sz := 1) (i := i) (j := 0) (y := ps.getD (i) rv0) (u := (ps.getD (i) rv0).v) sz_sl_api_Value (.inr ⟨_, rfl, fun h => h⟩) (by repeat (first | exact List.mem_cons_self | apply List.mem_cons_of_mem)) (hpa (by omega)) (getD_some (by omega)) (by omega) rfl) ?_
        refine RT.g rfl rfl rfl (fun hg => ob_move (.inl rfl)) ?_
        refine RT.g rfl rfl rfl (fun hg => ob_move (.inl rfl)) ?_
        refine RT.g rfl rfl rfl (fun hg => ob_subc (cc := ((i - 1 : Nat) : Int)) (.inr ⟨_, rfl, fun h => h⟩) (.inl rfl) (by omega) (by omega) (by omega)) ?_
        refine RT.g rfl rfl rfl (fun hg => ob_indexAddr el_sl_sl_api_Value (.inr ⟨_, rfl, fun h => h⟩) (hpa (by omega)) (.inr ⟨_, rfl, fun h => h⟩) (by omega) (by omega)) ?_
        refine RT.g rfl rfl rfl (fun hg => ob_loadG1 (enc := RV.c) (sz := 1) (i := i - 1) (j := 0) (y := ps.getD (i - 1) rv0) (u := (ps.getD (i - 1) rv0).v) sz_sl_api_Value (.inr ⟨_, rfl, fun h => h⟩) (by repeat (first | exact List.mem_cons_self | apply List.mem_cons_of_mem)) (hpa (by omega)) (getD_some (by omega)) (by omega) rfl) ?_
        refine RT.g rfl rfl rfl (fun hg => ob_call (.inl rfl) (c_order_Rows (ps.getD (i) rv0).row (ps.getD (i - 1) rv0).row (hpr _ (getD_mem (by omega)))) (.sub (.inr ⟨_, rfl, fun h => h⟩) (Sub.rvS (p := ps.getD (i) rv0) (getD_mem (by omega)) (by repeat (first | exact List.mem_cons_self | apply List.mem_cons_of_mem))) (.sub (.inr ⟨_, rfl, fun h => h⟩) (Sub.rvS (p := ps.getD (i - 1) rv0) (getD_mem (by omega)) (by repeat (first | exact List.mem_cons_self | apply List.mem_cons_of_mem))) .nil))) ?_
        refine RT.g rfl rfl rfl (fun hg => ob_move (.inl rfl)) ?_
        refine RT.g rfl rfl rfl (fun hg => ob_move (.inl rfl)) ?_
        refine RT.g rfl rfl rfl (fun hg => ob_indexAddr el_sl_sl_api_Value (.inr ⟨_, rfl, fun h => h⟩) (hpa (by omega)) (.inr ⟨_, rfl, fun h => h⟩) (by omega) (by omega)) ?_
        refine RT.g rfl rfl rfl (fun hg => ob_loadG1 (enc := RV.c) (sz := 1) (i := i) (j := 0) (y := ps.getD (i) rv0) (u := (ps.getD (i) rv0).v) sz_sl_api_Value (.inr ⟨_, rfl, fun h => h⟩) (by repeat (first | exact List.mem_cons_self | apply List.mem_cons_of_mem)) (hpa (by omega)) (getD_some (by omega)) (by omega) rfl) ?_
        refine RT.g rfl rfl rfl (fun hg => ob_move (.inl rfl)) ?_
        refine RT.g rfl rfl rfl (fun hg => ob_move (.inl rfl)) ?_
        refine RT.g rfl rfl rfl (fun hg => ob_subc (cc := ((i - 1 : Nat) : Int)) (.inr ⟨_, rfl, fun h => h⟩) (.inl rfl) (by omega) (by omega) (by omega)) ?_
        refine RT.g rfl rfl rfl (fun hg => ob_indexAddr el_sl_sl_api_Value (.inr ⟨_, rfl, fun h => h⟩) (hpa (by omega)) (.inr ⟨_, rfl, fun h => h⟩) (by omega) (by omega)) ?_
        refine RT.g rfl rfl rfl (fun hg => ob_loadG1 (enc := RV.c) (sz := 1) (i := i - 1) (j := 0) (y := ps.getD (i - 1) rv0) (u := (ps.getD (i - 1) rv0).v) sz_sl_api_Value (.inr ⟨_, rfl, fun h => h⟩) (by repeat (first | exact List.mem_cons_self | apply List.mem_cons_of_mem)) (hpa (by omega)) (getD_some (by omega)) (by omega) rfl) ?_
        refine RT.g rfl rfl rfl (fun hg => ob_call (.inl rfl) (c_ref15_Rows (ps.getD (i) rv0).row (ps.getD (i - 1) rv0).row (hpr _ (getD_mem (by omega)))) (.sub (.inr ⟨_, rfl, fun h => h⟩) (Sub.rvS (p := ps.getD (i) rv0) (getD_mem (by omega)) (by repeat (first | exact List.mem_cons_self | apply List.mem_cons_of_mem))) (.sub (.inr ⟨_, rfl, fun h => h⟩) (Sub.rvS (p := ps.getD (i - 1) rv0) (getD_mem (by omega)) (by repeat (first | exact List.mem_cons_self | apply List.mem_cons_of_mem))) .nil))) ?_
        refine RT.g rfl rfl rfl (fun hg => ob_neq (.inr ⟨_, rfl, fun h => h⟩) (.inr ⟨_, rfl, fun h => h⟩)) ?_
        refine RT.t (ob_pickOr rfl rfl rfl id) ?_
        refine RT.nil ?_
        refine FinS.nil0 ?_
        repeat (first | refine JX.next ?_ | refine JX.normal_block ?_)
        refine J.sel [3, 7, 92] (.cons rfl (.cons rfl (.cons rfl .nil))) ?_
        repeat refine J.seq ?_
        refine J.cond rfl (fun ht92 => ?_) (fun ht92 => ?_)
        ·
          try simp only [decide_eq_true_eq, decide_eq_false_iff_not] at ht92
          exfalso
          simp at ht92
        ·
          try simp only [decide_eq_true_eq, decide_eq_false_iff_not] at ht92
          refine J.skip ?_
          repeat (first | refine JX.next ?_ | refine JX.normal_block ?_)
          repeat refine J.seq ?_
          refine J.plain ?_
          refine JO.t (ob_move rfl) rfl ?_
          refine JO.t (ob_addc (cc := ((i + 1 : Nat) : Int)) rfl rfl (by omega) (by omega) (by omega)) rfl ?_
          refine JO.t (ob_assign rfl) rfl ?_
          refine JO.nil ?_
          repeat refine JX.normal_block ?_
          refine JX.roundS (i + 1) ?_ ?_ [3, 7] ?_ ?_ ?_
          · exact (by omega)
          · exact (by omega)
          · exact (.cons rfl (.cons rfl .nil))
          · repeat (first | exact .slnil | exact List.Sublist.refl _ | apply List.Sublist.cons_cons | apply List.Sublist.cons)
          · repeat (first | exact .slnil | exact List.Sublist.refl _ | apply List.Sublist.cons_cons | apply List.Sublist.cons)
      ·
        try simp only [decide_eq_true_eq, decide_eq_false_iff_not] at ht46
        repeat refine J.seq ?_
        refine J.exit ?_
        repeat (first | refine JX.hit ?_ | refine JX.miss rfl ?_ | refine JX.exit_pass ?_)
        repeat (first | refine JX.next ?_ | refine JX.normal_block ?_)
        repeat refine J.seq ?_
        refine J.plain ?_
        refine JO.t (ob_assign rfl) rfl ?_
        refine JO.nil ?_
        repeat (first | refine JX.next ?_ | refine JX.normal_block ?_)
        refine J.sel [2] (.cons rfl .nil) ?_
        repeat refine J.seq ?_
        refine J.ret ?_
        repeat (first | refine JX.ret_pass ?_ | refine JX.ret_block ?_)
        exact JX.ret1is rfl rfl (by rfl)
end Go.Proofs.Ytgpikmonklainaa
