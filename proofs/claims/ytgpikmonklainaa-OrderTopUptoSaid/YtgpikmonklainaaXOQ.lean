/- order: the law of sorting once and again. No condition. -/
import Derived.Test.YtgpikmonklainaaXOS
import Derived.Test.YtgpikmonklainaaXOK
set_option maxRecDepth 20000
namespace Go.Proofs.Ytgpikmonklainaa
open Go Go.Vc
open Go.Vl Go.Od
theorem c_law15_OrderAgain (rows keys : List (List V3)) (dn : List Bool) (limit : Int) (hn : rows.length ≤ 1048576) (hnk : keys.length ≤ 1048576) (hR : ∀ r ∈ rows, r.length ≤ 1048576) (hK : ∀ r ∈ keys, r.length ≤ 1048576) (hdn : dn.length ≤ 1048576) : CallTy Try.prog f_law15_OrderAgain [.rep (AskS rows keys dn limit)] (.is (.bool true)) :=
  CallTy.of (fn := Try.f5) Try.func5 (n := 105) rfl rfl rfl (fun _ _ => by kernel_rfl) fun E W => by
  refine J.openAskS (s := 0) rfl (fun rps ra rl rc rb ro kps ka kl kc kb ko da dl dc db dof hrm hrl hrc hra hkm hkl hkc hka hdl hdc hda => ?_)
  subst hdl hrl hkl
  refine J.bigger (N := 0) (Nat.zero_le _) ?_
  repeat refine J.seq ?_
  refine J.plain ?_
  refine JO.box rfl rfl fun b1 => ?_
  refine JO.t (ob_assign rfl) rfl ?_
  refine JO.nil ?_
  repeat (first | refine JX.next ?_ | refine JX.normal_block ?_)
  refine J.sel [1] (.cons rfl .nil) ?_
  repeat refine J.seq ?_
  refine J.plain ?_
  refine JO.t (ob_call rfl c_law15_awake .nil) rfl ?_
  refine JO.t (ob_not rfl) rfl ?_
  refine JO.nil ?_
  repeat (first | refine JX.next ?_ | refine JX.normal_block ?_)
  refine J.sel [1, 13] (.cons rfl (.cons rfl .nil)) ?_
  repeat refine J.seq ?_
  refine J.cond rfl (fun ht13 => ?_) (fun ht13 => ?_)
  ·
    try simp only [decide_eq_true_eq, decide_eq_false_iff_not] at ht13
    exfalso
    simp at ht13
  ·
    try simp only [decide_eq_true_eq, decide_eq_false_iff_not] at ht13
    refine J.skip ?_
    repeat (first | refine JX.next ?_ | refine JX.normal_block ?_)
    repeat refine J.seq ?_
    refine J.plain ?_
    refine JO.t (ob_fieldAddr fo_cadastrelaw15_Ask_1 rfl) rfl ?_
    refine JO.t (ob_ld1 sz_sl_sl_api_Value rfl rfl) rfl ?_
    refine JO.t (ob_fieldAddr fo_cadastrelaw15_Ask_1 rfl) rfl ?_
    refine JO.t (ob_ld1 sz_sl_sl_api_Value rfl rfl) rfl ?_
    refine JO.t (ob_fieldAddr fo_cadastrelaw15_Ask_2 rfl) rfl ?_
    refine JO.t (ob_ld1 sz_sl_bool rfl rfl) rfl ?_
    refine JO.t (ob_call rfl (c_order_Top 0 keys keys dn (-1) hnk hK hK hdn) (.sub rfl (Sub.rowsF (rps := kps) (by repeat (first | exact List.mem_cons_self | apply List.mem_cons_of_mem)) (by repeat (first | exact List.mem_cons_self | apply List.mem_cons_of_mem)) hkc hkm) (.sub rfl (Sub.rowsF (rps := kps) (by repeat (first | exact List.mem_cons_self | apply List.mem_cons_of_mem)) (by repeat (first | exact List.mem_cons_self | apply List.mem_cons_of_mem)) hkc hkm) (.sub rfl (Sub.nsl (Sub.slFactC (by repeat (first | exact List.mem_cons_self | apply List.mem_cons_of_mem)) hdc) (by repeat (first | exact List.mem_cons_self | apply List.mem_cons_of_mem))) (.one rfl .nil))))) rfl ?_
    refine JO.t (ob_move rfl) rfl ?_
    refine JO.t (ob_extract0 rfl) rfl ?_
    refine JO.t (ob_extract1 rfl) rfl ?_
    refine JO.t (ob_assign rfl) rfl ?_
    refine JO.t (ob_assign rfl) rfl ?_
    refine JO.nil ?_
    repeat (first | refine JX.next ?_ | refine JX.normal_block ?_)
    refine J.sel [1, 3, 4] (.cons rfl (.cons rfl (.cons rfl .nil))) ?_
    refine J.openRows (s := 3) rfl (fun ps pa pl pc pb po hpm hpl hpc hpa => ?_)
    subst hpl
    have hlr : ∀ r ∈ topO keys keys dn (-1), r.length ≤ 1048576 := fun r hr => hK r (topO_mem hr)
    have hln : (topO keys keys dn (-1)).length ≤ 1048576 := Nat.le_trans topO_len hnk
    have hpn : ps.length = (topO keys keys dn (-1)).length := by rw [← hpm, List.length_map]
    repeat refine J.seq ?_
    refine J.plain ?_
    refine JO.t (ob_move rfl) rfl ?_
    refine JO.t (ob_neq rfl rfl) rfl ?_
    refine JO.nil ?_
    repeat (first | refine JX.next ?_ | refine JX.normal_block ?_)
    refine J.sel [1, 3, 4, 25] (.cons rfl (.cons rfl (.cons rfl (.cons rfl .nil)))) ?_
    repeat refine J.seq ?_
    refine J.cond rfl (fun ht25 => ?_) (fun ht25 => ?_)
    ·
      try simp only [decide_eq_true_eq, decide_eq_false_iff_not] at ht25
      have hb : allOk keys keys dn = false := by
        cases hb : allOk keys keys dn
        · rfl
        · rw [topE_ok hb] at ht25; simp at ht25
      rw [topO_bad hb] at hpn
      repeat refine J.seq ?_
      refine J.reg0 hmx (by kernel_rfl) (by kernel_rfl) ?_
      refine RT.t (ob_move rfl) ?_
      refine RT.t (ob_eql rfl rfl) ?_
      refine RT.t (ob_move rfl) ?_
      refine RT.g rfl rfl rfl (fun hg => ob_move (.inl rfl)) ?_
      refine RT.g rfl rfl rfl (fun hg => ob_len un_sl_sl_api_Value (.inr ⟨_, rfl, fun h => h⟩)) ?_
      refine RT.g rfl rfl rfl (fun hg => ob_eql (.inr ⟨_, rfl, fun h => h⟩) (.inl rfl)) ?_
      refine RT.t (ob_pickAnd rfl rfl rfl id) ?_
      refine RT.t (ob_assign rfl) ?_
      refine RT.nil ?_
      refine FinS.nil0 ?_
      repeat (first | refine JX.next ?_ | refine JX.normal_block ?_)
      refine J.sel [2] (.cons rfl .nil) ?_
      repeat refine J.seq ?_
      refine J.ret ?_
      repeat (first | refine JX.ret_pass ?_ | refine JX.ret_block ?_)
      exact JX.ret1is rfl rfl (by rw [topE_bad hb, hpn]; rfl)
    ·
      try simp only [decide_eq_true_eq, decide_eq_false_iff_not] at ht25
      refine J.skip ?_
      repeat (first | refine JX.next ?_ | refine JX.normal_block ?_)
      have hok : allOk keys keys dn = true := by
        cases hb : allOk keys keys dn
        · rw [topE_bad hb] at ht25; simp at ht25
        · rfl
      repeat refine J.seq ?_
      refine J.plain ?_
      refine JO.t (ob_move rfl) rfl ?_
      refine JO.t (ob_move rfl) rfl ?_
      refine JO.t (ob_fieldAddr fo_cadastrelaw15_Ask_2 rfl) rfl ?_
      refine JO.t (ob_ld1 sz_sl_bool rfl rfl) rfl ?_
      refine JO.t (ob_call rfl (c_order_Top 0 (topO keys keys dn (-1)) (topO keys keys dn (-1)) dn (-1) hln hlr hlr hdn) (.sub rfl (Sub.rowsF (rps := ps) (by repeat (first | exact List.mem_cons_self | apply List.mem_cons_of_mem)) (by repeat (first | exact List.mem_cons_self | apply List.mem_cons_of_mem)) hpc hpm) (.sub rfl (Sub.rowsF (rps := ps) (by repeat (first | exact List.mem_cons_self | apply List.mem_cons_of_mem)) (by repeat (first | exact List.mem_cons_self | apply List.mem_cons_of_mem)) hpc hpm) (.sub rfl (Sub.nsl (Sub.slFactC (by repeat (first | exact List.mem_cons_self | apply List.mem_cons_of_mem)) hdc) (by repeat (first | exact List.mem_cons_self | apply List.mem_cons_of_mem))) (.one rfl .nil))))) rfl ?_
      refine JO.t (ob_move rfl) rfl ?_
      refine JO.t (ob_extract0 rfl) rfl ?_
      refine JO.t (ob_extract1 rfl) rfl ?_
      refine JO.t (ob_assign rfl) rfl ?_
      refine JO.t (ob_assign rfl) rfl ?_
      refine JO.nil ?_
      repeat (first | refine JX.next ?_ | refine JX.normal_block ?_)
      refine J.sel [1, 3, 5, 6] (.cons rfl (.cons rfl (.cons rfl (.cons rfl .nil)))) ?_
      repeat refine J.seq ?_
      refine J.plain ?_
      refine JO.t (ob_assign rfl) rfl ?_
      refine JO.nil ?_
      repeat (first | refine JX.next ?_ | refine JX.normal_block ?_)
      refine J.sel [1, 3, 5, 6, 7] (.cons rfl (.cons rfl (.cons rfl (.cons rfl (.cons rfl .nil))))) ?_
      repeat refine J.seq ?_
      refine J.plain ?_
      refine JO.t (ob_assign rfl) rfl ?_
      refine JO.nil ?_
      repeat (first | refine JX.next ?_ | refine JX.normal_block ?_)
      refine J.sel [1, 3, 5, 6, 7, 8] (.cons rfl (.cons rfl (.cons rfl (.cons rfl (.cons rfl (.cons rfl .nil)))))) ?_
      repeat refine J.seq ?_
      refine J.block ?_
      repeat refine J.seq ?_
      refine J.loopG (α := Nat × Option (Nat × List Value) × Nat) (fun y => [(1, .is (.pointer (some ⟨b1, 0, none⟩))), (3, .is (.slice pa ps.length pc)), (5, .rep (RowsR (frG 0 ty_api_Value ty_sl_api_Value) (topO (topO keys keys dn (-1)) (topO keys keys dn (-1)) dn (-1)))), (6, .is (.int .i64 (topE (topO keys keys dn (-1)) (topO keys keys dn (-1)) dn))), (7, .is (sliceO y.2.1 ((dn.take y.1).map (!·)).length y.2.2)), (8, .is (.int .i64 (y.1 : Nat)))]) (fun y => ⟨b1, 25, .is (.agg [.slice ra rps.length rc, .slice ka kps.length kc, .slice da dn.length dc, .int .i64 limit].toArray)⟩ :: ownO y.2.1 ty_bool []) (fun y => fun _ => True) (fun y => y.1 ≤ dn.length ∧ Grows boC 1 ((dn.take y.1).map (!·)) y.2.1 y.2.2) (fun y => dn.length - y.1) (0, none, 0) [1, 3, 5, 6, 7, 8] (.cons rfl (.cons rfl (.cons rfl (.cons rfl (.cons rfl (.cons rfl .nil)))))) rfl (fun _ => trivial) ⟨Nat.zero_le _, rfl⟩ fun ⟨i, st, cap⟩ ⟨hi, hG⟩ => ?_
      try dsimp only
      try dsimp only at st
      try dsimp only at cap
      try dsimp only at hi
      try dsimp only at hG
      repeat refine J.seq ?_
      refine J.plain ?_
      refine JO.t (ob_move rfl) rfl ?_
      refine JO.t (ob_fieldAddr fo_cadastrelaw15_Ask_2 rfl) rfl ?_
      refine JO.t (ob_ld1 sz_sl_bool rfl rfl) rfl ?_
      refine JO.t (ob_len un_sl_bool rfl) rfl ?_
      refine JO.t (ob_lss rfl rfl) rfl ?_
      refine JO.nil ?_
      repeat (first | refine JX.next ?_ | refine JX.normal_block ?_)
      refine J.sel [1, 3, 5, 6, 7, 8, 45] (.cons rfl (.cons rfl (.cons rfl (.cons rfl (.cons rfl (.cons rfl (.cons rfl .nil))))))) ?_
      repeat refine J.seq ?_
      refine J.cond rfl (fun ht45 => ?_) (fun ht45 => ?_)
      ·
        try simp only [decide_eq_true_eq, decide_eq_false_iff_not] at ht45
        refine J.skip ?_
        repeat (first | refine JX.next ?_ | refine JX.normal_block ?_)
        repeat refine J.seq ?_
        refine J.block ?_
        repeat refine J.seq ?_
        refine J.plain ?_
        refine JO.t (ob_move rfl) rfl ?_
        refine JO.t (ob_fieldAddr fo_cadastrelaw15_Ask_2 rfl) rfl ?_
        refine JO.t (ob_ld1 sz_sl_bool rfl rfl) rfl ?_
        refine JO.t (ob_move rfl) rfl ?_
        refine JO.t (ob_indexAddr el_sl_bool rfl (hda (by omega)) rfl (by omega) (by omega)) rfl ?_
        refine JO.t (ob_loadG1 (enc := boC) (sz := 1) (len := dn.length) (i := i) (j := 0) (y := dn.getD i false) sz_bool rfl (by repeat (first | exact List.mem_cons_self | apply List.mem_cons_of_mem)) (hda (by omega)) (bo_get (by omega)) (by omega) rfl) rfl ?_
        refine JO.t (ob_not rfl) rfl ?_
        refine JO.t (ob_buildSlice (cs := [_]) sl_sl_bool (by omega) (by omega) (.cons rfl .nil) rfl rfl rfl) rfl ?_
        refine JO.apX ([!dn.getD i false]) ap_sl_bool boC_len (by repeat (first | exact .here | apply Cx.past | apply Cx.there)) hG rfl rfl (fun L => src_new un_sl_bool rfl rfl) (by simp) (by simp; omega) (by simp; omega) rfl (fun st1 cp1 hG1 => ?_)
        try dsimp only
        have htk : (dn.take (i + 1)).map (!·) = (dn.take i).map (!·) ++ [!dn.getD i false] := by rw [List.take_add_one, bo_get (by omega)]; simp
        rw [← htk]
        refine JO.t (ob_assign rfl) rfl ?_
        refine JO.nil ?_
        repeat (first | refine JX.next ?_ | refine JX.normal_block ?_)
        refine J.sel [1, 3, 5, 6, 7, 8] (.cons rfl (.cons rfl (.cons rfl (.cons rfl (.cons rfl (.cons rfl .nil)))))) ?_
        repeat refine J.seq ?_
        refine J.plain ?_
        refine JO.t (ob_move rfl) rfl ?_
        refine JO.t (ob_addc (cc := ((i + 1 : Nat) : Int)) rfl rfl (by omega) (by omega) (by omega)) rfl ?_
        refine JO.t (ob_assign rfl) rfl ?_
        refine JO.nil ?_
        repeat refine JX.normal_block ?_
        refine JX.roundG (x := (i, st, cap)) (i + 1, st1, cp1) ?_ ?_ [1, 3, 5, 6, 7, 8] ?_ ?_ ?_ ?_
        · exact ⟨by show i + 1 ≤ _; omega, by show Grows boC 1 ((dn.take (i + 1)).map (!·)) st1 cp1; rw [htk]; exact hG1⟩
        · exact (by show dn.length - (i + 1) < dn.length - i; omega)
        · exact (.cons rfl (.cons rfl (.cons rfl (.cons rfl (.cons rfl (.cons rfl .nil))))))
        · repeat (first | exact .all | exact .nil | refine Has.own (by repeat (first | exact .here | apply Tl.past | apply Tl.there)) ?_ | refine Has.cons (by repeat (first | exact .here | apply Pk.past | apply Pk.there)) ?_)
        · exact fun G hG => by repeat (first | exact hG | refine List.mem_cons_of_mem _ ?_)
        · exact fun _ _ _ => fun _ _ => trivial
      ·
        try simp only [decide_eq_true_eq, decide_eq_false_iff_not] at ht45
        repeat refine J.seq ?_
        refine J.exit ?_
        repeat (first | refine JX.hit ?_ | refine JX.miss rfl ?_ | refine JX.exit_pass ?_)
        repeat (first | refine JX.next ?_ | refine JX.normal_block ?_)
        have hi2 : i = dn.length := by omega
        subst hi2
        rw [List.take_length] at hG
        rw [List.take_length]
        refine J.freezeO boC_len hG (e := ty_bool) (by repeat (first | exact .here | apply Tl.past | apply Tl.there)) (fun _ h => h) rfl rfl ?_
        repeat refine J.seq ?_
        refine J.plain ?_
        refine JO.t (ob_fieldAddr fo_cadastrelaw15_Ask_1 rfl) rfl ?_
        refine JO.t (ob_ld1 sz_sl_sl_api_Value rfl rfl) rfl ?_
        refine JO.t (ob_fieldAddr fo_cadastrelaw15_Ask_1 rfl) rfl ?_
        refine JO.t (ob_ld1 sz_sl_sl_api_Value rfl rfl) rfl ?_
        refine JO.t (ob_move rfl) rfl ?_
        refine JO.t (ob_call rfl (c_order_Top 0 keys keys (dn.map (!·)) (-1) hnk hK hK (by rw [List.length_map]; exact hdn)) (.sub rfl (Sub.rowsF (rps := kps) (by repeat (first | exact List.mem_cons_self | apply List.mem_cons_of_mem)) (by repeat (first | exact List.mem_cons_self | apply List.mem_cons_of_mem)) hkc hkm) (.sub rfl (Sub.rowsF (rps := kps) (by repeat (first | exact List.mem_cons_self | apply List.mem_cons_of_mem)) (by repeat (first | exact List.mem_cons_self | apply List.mem_cons_of_mem)) hkc hkm) (.sub rfl (Sub.nsl (Sub.slOC hG (by repeat (first | exact List.mem_cons_self | apply List.mem_cons_of_mem))) (by repeat (first | exact List.mem_cons_self | apply List.mem_cons_of_mem))) (.one rfl .nil))))) rfl ?_
        refine JO.t (ob_move rfl) rfl ?_
        refine JO.t (ob_extract0 rfl) rfl ?_
        refine JO.t (ob_extract1 rfl) rfl ?_
        refine JO.t (ob_assign rfl) rfl ?_
        refine JO.t (ob_assign rfl) rfl ?_
        refine JO.nil ?_
        repeat (first | refine JX.next ?_ | refine JX.normal_block ?_)
        refine J.sel [3, 5, 6, 9, 10] (.cons rfl (.cons rfl (.cons rfl (.cons rfl (.cons rfl .nil))))) ?_
        refine J.openRows (s := 9) rfl (fun qs qa ql qc qb qo hqm hql hqc hqa => ?_)
        subst hql
        rw [not_same hok, ← hpm] at hqm
        have hE2 := topE_ok (again_ok hok)
        have hE3 := topE_ok (not_ok hok)
        have hS2 : sameR (topO keys keys dn (-1)) (topO (topO keys keys dn (-1)) (topO keys keys dn (-1)) dn (-1)) = true := (sameR_iff _ _).2 (again_same hok).symm
        have hbl : qs.length = ps.length := by
          have := congrArg List.length hqm
          simpa using this
        repeat refine J.seq ?_
        refine J.reg0 hmx (by kernel_rfl) (by kernel_rfl) ?_
        refine RT.t (ob_move rfl) ?_
        refine RT.t (ob_neq rfl rfl) ?_
        refine RT.t (ob_move rfl) ?_
        refine RT.g rfl rfl rfl (fun hg => ob_move (.inl rfl)) ?_
        refine RT.g rfl rfl rfl (fun hg => ob_neq (.inr ⟨_, rfl, fun h => h⟩) (.inl rfl)) ?_
        refine RT.t (ob_pickOr rfl rfl rfl id) ?_
        refine RT.t (ob_move rfl) ?_
        refine RT.g rfl rfl rfl (fun hg => ob_move (.inl rfl)) ?_
        refine RT.g rfl rfl rfl (fun hg => ob_move (.inl rfl)) ?_
        refine RT.g rfl rfl rfl (fun hg => ob_call (.inl rfl) (c_ref15_Same (topO keys keys dn (-1)) (topO (topO keys keys dn (-1)) (topO keys keys dn (-1)) dn (-1)) (by omega) (fun x hx => by have := hlr x hx; omega)) (.sub (.inr ⟨_, rfl, fun h => h⟩) (Sub.rowsF (rps := ps) (by repeat (first | exact List.mem_cons_self | apply List.mem_cons_of_mem)) (by repeat (first | exact List.mem_cons_self | apply List.mem_cons_of_mem)) hpc hpm) (.sub (.inr ⟨_, rfl, fun h => h⟩) Sub.rowsW .nil))) ?_
        refine RT.g rfl rfl rfl (fun hg => ob_not (.inr ⟨_, rfl, fun h => h⟩)) ?_
        refine RT.t (ob_pickOr rfl rfl rfl id) ?_
        refine RT.t (ob_move rfl) ?_
        refine RT.g rfl rfl rfl (fun hg => ob_move (.inl rfl)) ?_
        refine RT.g rfl rfl rfl (fun hg => ob_len un_sl_sl_api_Value (.inr ⟨_, rfl, fun h => h⟩)) ?_
        refine RT.g rfl rfl rfl (fun hg => ob_move (.inl rfl)) ?_
        refine RT.g rfl rfl rfl (fun hg => ob_len un_sl_sl_api_Value (.inr ⟨_, rfl, fun h => h⟩)) ?_
        refine RT.g rfl rfl rfl (fun hg => ob_neq (.inr ⟨_, rfl, fun h => h⟩) (.inr ⟨_, rfl, fun h => h⟩)) ?_
        refine RT.t (ob_pickOr rfl rfl rfl id) ?_
        refine RT.nil ?_
        refine FinS.nil0 ?_
        repeat (first | refine JX.next ?_ | refine JX.normal_block ?_)
        refine J.sel [3, 9, 84] (.cons rfl (.cons rfl (.cons rfl .nil))) ?_
        repeat refine J.seq ?_
        refine J.cond rfl (fun ht84 => ?_) (fun ht84 => ?_)
        ·
          try simp only [decide_eq_true_eq, decide_eq_false_iff_not] at ht84
          exfalso
          rw [hE2, hE3, hS2, hbl] at ht84; simp at ht84
        ·
          try simp only [decide_eq_true_eq, decide_eq_false_iff_not] at ht84
          refine J.skip ?_
          repeat (first | refine JX.next ?_ | refine JX.normal_block ?_)
          repeat refine J.seq ?_
          refine J.plain ?_
          refine JO.t (ob_assign rfl) rfl ?_
          refine JO.nil ?_
          repeat (first | refine JX.next ?_ | refine JX.normal_block ?_)
          refine J.sel [3, 9, 11] (.cons rfl (.cons rfl (.cons rfl .nil))) ?_
          repeat refine J.seq ?_
          refine J.block ?_
          repeat refine J.seq ?_
          refine J.loopF (α := Nat) (fun i => [(3, .is (.slice pa ps.length pc)), (9, .is (.slice qa qs.length qc)), (11, .is (.int .i64 (i : Nat)))]) (fun i => i ≤ ps.length) (fun i => ps.length - i) 0 [3, 9, 11] (.cons rfl (.cons rfl (.cons rfl .nil))) (Nat.zero_le _) fun i hi => ?_
          repeat refine J.seq ?_
          refine J.plain ?_
          refine JO.t (ob_move rfl) rfl ?_
          refine JO.t (ob_move rfl) rfl ?_
          refine JO.t (ob_len un_sl_sl_api_Value rfl) rfl ?_
          refine JO.t (ob_lss rfl rfl) rfl ?_
          refine JO.nil ?_
          repeat (first | refine JX.next ?_ | refine JX.normal_block ?_)
          refine J.sel [3, 9, 11, 88] (.cons rfl (.cons rfl (.cons rfl (.cons rfl .nil)))) ?_
          repeat refine J.seq ?_
          refine J.cond rfl (fun ht88 => ?_) (fun ht88 => ?_)
          ·
            try simp only [decide_eq_true_eq, decide_eq_false_iff_not] at ht88
            refine J.skip ?_
            repeat (first | refine JX.next ?_ | refine JX.normal_block ?_)
            repeat refine J.seq ?_
            refine J.block ?_
            repeat refine J.seq ?_
            refine J.reg0 hmx (by kernel_rfl) (by kernel_rfl) ?_
            refine RT.t (ob_move rfl) ?_
            refine RT.t (ob_move rfl) ?_
            refine RT.t (ob_indexAddr el_sl_sl_api_Value rfl (hpa (by omega)) rfl (by omega) (by omega)) ?_
            refine RT.t (ob_loadG1 (enc := RV.c) (sz := 1) (i := i) (j := 0) (y := ps.getD (i) rv0) (u := (ps.getD (i) rv0).v) sz_sl_api_Value rfl (by repeat (first | exact List.mem_cons_self | apply List.mem_cons_of_mem)) (hpa (by omega)) (getD_some (by omega)) (by omega) rfl) ?_
            refine RT.t (ob_move rfl) ?_
            refine RT.t (ob_move rfl) ?_
            refine RT.t (ob_len un_sl_sl_api_Value rfl) ?_
            refine RT.t (ob_subc (cc := ((ps.length - 1 : Nat) : Int)) rfl rfl (by omega) (by omega) (by omega)) ?_
            refine RT.t (ob_move rfl) ?_
            refine RT.t (ob_subc (cc := ((ps.length - 1 - i : Nat) : Int)) rfl rfl (by omega) (by omega) (by omega)) ?_
            refine RT.t (ob_indexAddr el_sl_sl_api_Value rfl (hqa (by omega)) rfl (by omega) (by omega)) ?_
            refine RT.t (ob_loadG1 (enc := RV.c) (sz := 1) (i := ps.length - 1 - i) (j := 0) (y := qs.getD (ps.length - 1 - i) rv0) (u := (qs.getD (ps.length - 1 - i) rv0).v) sz_sl_api_Value rfl (by repeat (first | exact List.mem_cons_self | apply List.mem_cons_of_mem)) (hqa (by omega)) (getD_some (by omega)) (by omega) rfl) ?_
            refine RT.t (ob_call rfl (c_order_Rows (ps.getD i rv0).row (qs.getD (ps.length - 1 - i) rv0).row (by have := hlr _ (hpm ▸ List.mem_map_of_mem (getD_mem (d := rv0) (l := ps) (i := i) (by omega))); omega)) (.sub rfl (Sub.rvS (p := ps.getD (i) rv0) (getD_mem (by omega)) (by repeat (first | exact List.mem_cons_self | apply List.mem_cons_of_mem))) (.sub rfl (Sub.rvS (p := qs.getD (ps.length - 1 - i) rv0) (getD_mem (by omega)) (by repeat (first | exact List.mem_cons_self | apply List.mem_cons_of_mem))) .nil))) ?_
            refine RT.t (ob_neq rfl rfl) ?_
            refine RT.nil ?_
            refine FinS.nil0 ?_
            repeat (first | refine JX.next ?_ | refine JX.normal_block ?_)
            refine J.sel [3, 9, 11, 104] (.cons rfl (.cons rfl (.cons rfl (.cons rfl .nil)))) ?_
            repeat refine J.seq ?_
            refine J.cond rfl (fun ht104 => ?_) (fun ht104 => ?_)
            ·
              try simp only [decide_eq_true_eq, decide_eq_false_iff_not] at ht104
              exfalso
              rw [rev_get hqm (by omega), rows_self] at ht104; simp at ht104
            ·
              try simp only [decide_eq_true_eq, decide_eq_false_iff_not] at ht104
              refine J.skip ?_
              repeat (first | refine JX.next ?_ | refine JX.normal_block ?_)
              repeat refine J.seq ?_
              refine J.plain ?_
              refine JO.t (ob_move rfl) rfl ?_
              refine JO.t (ob_addc (cc := ((i + 1 : Nat) : Int)) rfl rfl (by omega) (by omega) (by omega)) rfl ?_
              refine JO.t (ob_assign rfl) rfl ?_
              refine JO.nil ?_
              repeat refine JX.normal_block ?_
              refine JX.roundS (i + 1) ?_ ?_ [3, 9, 11] ?_ ?_ ?_
              · exact (by omega)
              · exact (by omega)
              · exact (.cons rfl (.cons rfl (.cons rfl .nil)))
              · repeat (first | exact .slnil | exact List.Sublist.refl _ | apply List.Sublist.cons_cons | apply List.Sublist.cons)
              · repeat (first | exact .slnil | exact List.Sublist.refl _ | apply List.Sublist.cons_cons | apply List.Sublist.cons)
          ·
            try simp only [decide_eq_true_eq, decide_eq_false_iff_not] at ht88
            repeat refine J.seq ?_
            refine J.exit ?_
            repeat (first | refine JX.hit ?_ | refine JX.miss rfl ?_ | refine JX.exit_pass ?_)
            repeat (first | refine JX.next ?_ | refine JX.normal_block ?_)
            repeat refine J.seq ?_
            refine J.plain ?_
            refine JO.t (ob_assign rfl) rfl ?_
            refine JO.nil ?_
            repeat (first | refine JX.next ?_ | refine JX.normal_block ?_)
            refine J.sel [2] (.cons rfl .nil) ?_
            repeat refine J.seq ?_
            refine J.ret ?_
            repeat (first | refine JX.ret_pass ?_ | refine JX.ret_block ?_)
            exact JX.ret1is rfl rfl (by rfl)
end Go.Proofs.Ytgpikmonklainaa
