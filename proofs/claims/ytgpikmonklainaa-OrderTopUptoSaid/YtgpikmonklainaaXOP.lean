/- order: the law of the first few. No condition. -/
import Derived.Test.YtgpikmonklainaaXOQ
import Derived.Test.YtgpikmonklainaaXOL
set_option maxRecDepth 20000
namespace Go.Proofs.Ytgpikmonklainaa
open Go Go.Vc
open Go.Vl Go.Od
theorem c_law15_OrderTop (rows keys : List (List V3)) (dn : List Bool) (limit : Int) (hn : rows.length ≤ 1048576) (hnk : keys.length ≤ 1048576) (hR : ∀ r ∈ rows, r.length ≤ 1048576) (hK : ∀ r ∈ keys, r.length ≤ 1048576) (hdn : dn.length ≤ 1048576) (picks : List UInt8) (hpk : picks.length ≤ 1048576) : CallTy Try.prog f_law15_OrderTop [.rep (AskS rows keys dn limit), .rep (SlG bC 1 picks)] (.is (.bool true)) :=
  CallTy.of (fn := Try.f4) Try.func4 (n := 202) rfl rfl rfl (fun _ _ => by kernel_rfl) fun E W => by
  refine J.openAskS (s := 0) rfl (fun rps ra rl rc rb ro kps ka kl kc kb ko da dl dc db dof hrm hrl hrc hra hkm hkl hkc hka hdl hdc hda => ?_)
  subst hdl hrl hkl
  refine J.bigger (N := 0) (Nat.zero_le _) ?_
  refine J.openSl (enc := bC) (sz := 1) (s := 1) rfl (fun ua ul uc ub uo hul hua => ?_)
  subst hul
  repeat refine J.seq ?_
  refine J.plain ?_
  refine JO.box rfl rfl fun b2 => ?_
  refine JO.t (ob_assign rfl) rfl ?_
  refine JO.nil ?_
  repeat (first | refine JX.next ?_ | refine JX.normal_block ?_)
  refine J.sel [1, 2] (.cons rfl (.cons rfl .nil)) ?_
  repeat refine J.seq ?_
  refine J.plain ?_
  refine JO.t (ob_call rfl c_law15_awake .nil) rfl ?_
  refine JO.t (ob_not rfl) rfl ?_
  refine JO.nil ?_
  repeat (first | refine JX.next ?_ | refine JX.normal_block ?_)
  refine J.sel [1, 2, 21] (.cons rfl (.cons rfl (.cons rfl .nil))) ?_
  repeat refine J.seq ?_
  refine J.cond rfl (fun ht21 => ?_) (fun ht21 => ?_)
  ·
    try simp only [decide_eq_true_eq, decide_eq_false_iff_not] at ht21
    exfalso
    simp at ht21
  ·
    try simp only [decide_eq_true_eq, decide_eq_false_iff_not] at ht21
    refine J.skip ?_
    repeat (first | refine JX.next ?_ | refine JX.normal_block ?_)
    repeat refine J.seq ?_
    refine J.plain ?_
    refine JO.t (ob_fieldAddr fo_cadastrelaw15_Ask_0 rfl) rfl ?_
    refine JO.t (ob_ld1 sz_sl_sl_api_Value rfl rfl) rfl ?_
    refine JO.t (ob_fieldAddr fo_cadastrelaw15_Ask_1 rfl) rfl ?_
    refine JO.t (ob_ld1 sz_sl_sl_api_Value rfl rfl) rfl ?_
    refine JO.t (ob_fieldAddr fo_cadastrelaw15_Ask_2 rfl) rfl ?_
    refine JO.t (ob_ld1 sz_sl_bool rfl rfl) rfl ?_
    refine JO.t (ob_call rfl (c_order_Top 0 rows keys dn (-1) hn hR hK hdn) (.sub rfl (Sub.rowsF (rps := rps) (by repeat (first | exact List.mem_cons_self | apply List.mem_cons_of_mem)) (by repeat (first | exact List.mem_cons_self | apply List.mem_cons_of_mem)) hrc hrm) (.sub rfl (Sub.rowsF (rps := kps) (by repeat (first | exact List.mem_cons_self | apply List.mem_cons_of_mem)) (by repeat (first | exact List.mem_cons_self | apply List.mem_cons_of_mem)) hkc hkm) (.sub rfl (Sub.nsl (Sub.slFactC (by repeat (first | exact List.mem_cons_self | apply List.mem_cons_of_mem)) hdc) (by repeat (first | exact List.mem_cons_self | apply List.mem_cons_of_mem))) (.one rfl .nil))))) rfl ?_
    refine JO.t (ob_move rfl) rfl ?_
    refine JO.t (ob_extract0 rfl) rfl ?_
    refine JO.t (ob_extract1 rfl) rfl ?_
    refine JO.t (ob_assign rfl) rfl ?_
    refine JO.t (ob_assign rfl) rfl ?_
    refine JO.nil ?_
    repeat (first | refine JX.next ?_ | refine JX.normal_block ?_)
    refine J.sel [1, 2, 5, 6] (.cons rfl (.cons rfl (.cons rfl (.cons rfl .nil)))) ?_
    refine J.openRows (s := 5) rfl (fun ps pa pl pc pb po hpm hpl hpc hpa => ?_)
    subst hpl
    have hlr : ∀ r ∈ topO rows keys dn (-1), r.length ≤ 1048576 := fun r hr => hR r (topO_mem hr)
    have hln : (topO rows keys dn (-1)).length ≤ 1048576 := Nat.le_trans topO_len hn
    have hpn : ps.length = (topO rows keys dn (-1)).length := by rw [← hpm, List.length_map]
    repeat refine J.seq ?_
    refine J.plain ?_
    refine JO.t (ob_fieldAddr fo_cadastrelaw15_Ask_0 rfl) rfl ?_
    refine JO.t (ob_ld1 sz_sl_sl_api_Value rfl rfl) rfl ?_
    refine JO.t (ob_fieldAddr fo_cadastrelaw15_Ask_1 rfl) rfl ?_
    refine JO.t (ob_ld1 sz_sl_sl_api_Value rfl rfl) rfl ?_
    refine JO.t (ob_fieldAddr fo_cadastrelaw15_Ask_2 rfl) rfl ?_
    refine JO.t (ob_ld1 sz_sl_bool rfl rfl) rfl ?_
    refine JO.t (ob_fieldAddr fo_cadastrelaw15_Ask_3 rfl) rfl ?_
    refine JO.t (ob_ld1 sz_int rfl rfl) rfl ?_
    refine JO.t (ob_call rfl (c_order_Top 0 rows keys dn limit hn hR hK hdn) (.sub rfl (Sub.rowsF (rps := rps) (by repeat (first | exact List.mem_cons_self | apply List.mem_cons_of_mem)) (by repeat (first | exact List.mem_cons_self | apply List.mem_cons_of_mem)) hrc hrm) (.sub rfl (Sub.rowsF (rps := kps) (by repeat (first | exact List.mem_cons_self | apply List.mem_cons_of_mem)) (by repeat (first | exact List.mem_cons_self | apply List.mem_cons_of_mem)) hkc hkm) (.sub rfl (Sub.nsl (Sub.slFactC (by repeat (first | exact List.mem_cons_self | apply List.mem_cons_of_mem)) hdc) (by repeat (first | exact List.mem_cons_self | apply List.mem_cons_of_mem))) (.one rfl .nil))))) rfl ?_
    refine JO.t (ob_move rfl) rfl ?_
    refine JO.t (ob_extract0 rfl) rfl ?_
    refine JO.t (ob_extract1 rfl) rfl ?_
    refine JO.t (ob_assign rfl) rfl ?_
    refine JO.t (ob_assign rfl) rfl ?_
    refine JO.nil ?_
    repeat (first | refine JX.next ?_ | refine JX.normal_block ?_)
    refine J.sel [1, 2, 5, 6, 7, 8] (.cons rfl (.cons rfl (.cons rfl (.cons rfl (.cons rfl (.cons rfl .nil)))))) ?_
    refine J.openRows (s := 7) rfl (fun ms ma ml mc mb mo hmm hml hmc hma => ?_)
    subst hml
    have hmn : ms.length = (topO rows keys dn limit).length := by rw [← hmm, List.length_map]
    repeat refine J.seq ?_
    refine J.plain ?_
    refine JO.t (ob_move rfl) rfl ?_
    refine JO.t (ob_move rfl) rfl ?_
    refine JO.t (ob_neq rfl rfl) rfl ?_
    refine JO.nil ?_
    repeat (first | refine JX.next ?_ | refine JX.normal_block ?_)
    refine J.sel [1, 2, 5, 6, 7, 46] (.cons rfl (.cons rfl (.cons rfl (.cons rfl (.cons rfl (.cons rfl .nil)))))) ?_
    repeat refine J.seq ?_
    refine J.cond rfl (fun ht46 => ?_) (fun ht46 => ?_)
    ·
      try simp only [decide_eq_true_eq, decide_eq_false_iff_not] at ht46
      exfalso
      simp at ht46
    ·
      try simp only [decide_eq_true_eq, decide_eq_false_iff_not] at ht46
      refine J.skip ?_
      repeat (first | refine JX.next ?_ | refine JX.normal_block ?_)
      repeat refine J.seq ?_
      refine J.plain ?_
      refine JO.t (ob_move rfl) rfl ?_
      refine JO.t (ob_neq rfl rfl) rfl ?_
      refine JO.nil ?_
      repeat (first | refine JX.next ?_ | refine JX.normal_block ?_)
      refine J.sel [1, 2, 5, 6, 7, 48] (.cons rfl (.cons rfl (.cons rfl (.cons rfl (.cons rfl (.cons rfl .nil)))))) ?_
      repeat refine J.seq ?_
      refine J.cond rfl (fun ht48 => ?_) (fun ht48 => ?_)
      ·
        try simp only [decide_eq_true_eq, decide_eq_false_iff_not] at ht48
        have hb : allOk rows keys dn = false := by
          cases hb : allOk rows keys dn
          · rfl
          · rw [topE_ok hb] at ht48; simp at ht48
        rw [topO_bad hb] at hpn hmn
        repeat refine J.seq ?_
        refine J.reg0 hmx (by kernel_rfl) (by kernel_rfl) ?_
        refine RT.t (ob_move rfl) ?_
        refine RT.t (ob_eql rfl rfl) ?_
        refine RT.t (ob_move rfl) ?_
        refine RT.g rfl rfl rfl (fun hg => ob_move (.inl rfl)) ?_
        refine RT.g rfl rfl rfl (fun hg => ob_len un_sl_sl_api_Value (.inr ⟨_, rfl, fun h => h⟩)) ?_
        refine RT.g rfl rfl rfl (fun hg => ob_eql (.inr ⟨_, rfl, fun h => h⟩) (.inl rfl)) ?_
        refine RT.t (ob_pickAnd rfl rfl rfl id) ?_
        refine RT.t (ob_move rfl) ?_
        refine RT.g rfl rfl rfl (fun hg => ob_move (.inl rfl)) ?_
        refine RT.g rfl rfl rfl (fun hg => ob_len un_sl_sl_api_Value (.inr ⟨_, rfl, fun h => h⟩)) ?_
        refine RT.g rfl rfl rfl (fun hg => ob_eql (.inr ⟨_, rfl, fun h => h⟩) (.inl rfl)) ?_
        refine RT.t (ob_pickAnd rfl rfl rfl id) ?_
        refine RT.t (ob_assign rfl) ?_
        refine RT.nil ?_
        refine FinS.nil0 ?_
        repeat (first | refine JX.next ?_ | refine JX.normal_block ?_)
        refine J.sel [4] (.cons rfl .nil) ?_
        repeat refine J.seq ?_
        refine J.ret ?_
        repeat (first | refine JX.ret_pass ?_ | refine JX.ret_block ?_)
        exact JX.ret1is rfl rfl (by rw [topE_bad hb, hpn, hmn]; rfl)
      ·
        try simp only [decide_eq_true_eq, decide_eq_false_iff_not] at ht48
        refine J.skip ?_
        repeat (first | refine JX.next ?_ | refine JX.normal_block ?_)
        have hok : allOk rows keys dn = true := by
          cases hb : allOk rows keys dn
          · rw [topE_bad hb] at ht48; simp at ht48
          · rfl
        repeat refine J.seq ?_
        refine J.plain ?_
        refine JO.t (ob_move rfl) rfl ?_
        refine JO.t (ob_len un_sl_sl_api_Value rfl) rfl ?_
        refine JO.t (ob_assign rfl) rfl ?_
        refine JO.nil ?_
        repeat (first | refine JX.next ?_ | refine JX.normal_block ?_)
        refine J.sel [1, 2, 5, 7, 9] (.cons rfl (.cons rfl (.cons rfl (.cons rfl (.cons rfl .nil))))) ?_
        repeat refine J.seq ?_
        refine J.reg0 hmx (by kernel_rfl) (by kernel_rfl) ?_
        refine RT.t (ob_fieldAddr fo_cadastrelaw15_Ask_3 rfl) ?_
        refine RT.t (ob_ld1 sz_int rfl rfl) ?_
        refine RT.t (ob_geq rfl rfl) ?_
        refine RT.t (ob_move rfl) ?_
        refine RT.g rfl rfl rfl (fun hg => ob_fieldAddr fo_cadastrelaw15_Ask_3 (.inl rfl)) ?_
        refine RT.g rfl rfl rfl (fun hg => ob_ld1 sz_int (.inr ⟨_, rfl, fun h => h⟩) rfl) ?_
        refine RT.g rfl rfl rfl (fun hg => ob_move (.inl rfl)) ?_
        refine RT.g rfl rfl rfl (fun hg => ob_lss (.inr ⟨_, rfl, fun h => h⟩) (.inr ⟨_, rfl, fun h => h⟩)) ?_
        refine RT.t (ob_pickAnd rfl rfl rfl id) ?_
        refine RT.nil ?_
        refine FinS.nil0 ?_
        repeat (first | refine JX.next ?_ | refine JX.normal_block ?_)
        refine J.sel [1, 2, 5, 7, 9, 71] (.cons rfl (.cons rfl (.cons rfl (.cons rfl (.cons rfl (.cons rfl .nil)))))) ?_
        repeat refine J.seq ?_
        refine J.cond rfl (fun ht71 => ?_) (fun ht71 => ?_)
        ·
          try simp only [decide_eq_true_eq, decide_eq_false_iff_not] at ht71
          repeat refine J.seq ?_
          refine J.plain ?_
          refine JO.t (ob_fieldAddr fo_cadastrelaw15_Ask_3 rfl) rfl ?_
          refine JO.t (ob_ld1 sz_int rfl rfl) rfl ?_
          refine JO.t (ob_assign rfl) rfl ?_
          refine JO.nil ?_
          repeat (first | refine JX.next ?_ | refine JX.normal_block ?_)
          refine J.sel [1, 2, 5, 7, 9] (.cons rfl (.cons rfl (.cons rfl (.cons rfl (.cons rfl .nil))))) ?_
          obtain ⟨hcut, hlen1⟩ := take_cut (limit := limit) hok
          have hrl : rows.length = rps.length := by rw [← hrm, List.length_map]
          have hpl : ps.length = rps.length := by
            have h := congrArg List.length hpm
            rwa [List.length_map, hlen1, hrl] at h
          obtain ⟨nn, hnn⟩ : ∃ nn, nn = (if limit < 0 then rows.length else min limit.toNat rows.length) := ⟨_, rfl⟩
          rw [← hnn] at hcut
          rw [hrl] at hnn
          have h0 : 0 ≤ limit ∧ limit < (ps.length : Int) := by simpa using ht71
          rw [if_neg (by omega)] at hnn
          refine J.coer (s := 9) (T' := .is (.int .i64 (nn : Nat))) rfl (Sub.isEq (by rw [show (nn : Int) = limit by omega])) ?_
          have hnp : nn ≤ ps.length := by omega
          refine J.rowTake (n := nn) (xs := ps) (a := pa) (len := ps.length) (en := RV.c) (sz := 1) (by repeat (first | exact List.mem_cons_self | apply List.mem_cons_of_mem)) hnp ?_
          refine J.rvSub (rps := ps) (ps := ps.take nn) (by repeat (first | exact List.mem_cons_self | apply List.mem_cons_of_mem)) (fun p hp => List.mem_of_mem_take hp) ?_
          repeat refine J.seq ?_
          refine J.reg0 hmx (by kernel_rfl) (by kernel_rfl) ?_
          refine RT.t (ob_move rfl) ?_
          refine RT.t (ob_len un_sl_sl_api_Value rfl) ?_
          refine RT.t (ob_fieldAddr fo_cadastrelaw15_Ask_0 rfl) ?_
          refine RT.t (ob_ld1 sz_sl_sl_api_Value rfl rfl) ?_
          refine RT.t (ob_len un_sl_sl_api_Value rfl) ?_
          refine RT.t (ob_neq rfl rfl) ?_
          refine RT.t (ob_move rfl) ?_
          refine RT.g rfl rfl rfl (fun hg => ob_move (.inl rfl)) ?_
          refine RT.g rfl rfl rfl (fun hg => ob_move (.inl rfl)) ?_
          refine RT.g rfl rfl rfl (fun hg => ob_move (.inl rfl)) ?_
          refine RT.g rfl rfl rfl (fun hg => ob_sliceHi un_sl_sl_api_Value el_sl_sl_api_Value (.inr ⟨_, rfl, fun h => h⟩) (.inr ⟨_, rfl, fun h => h⟩) (by omega) (by omega)) ?_
          refine RT.g rfl rfl rfl (fun hg => ob_call (.inl rfl) (c_ref15_Same (topO rows keys dn limit) ((topO rows keys dn (-1)).take nn) (by have := topO_len (rows := rows) (keys := keys) (dn := dn) (limit := limit); omega) (fun x hx => by have := hR x (topO_mem hx); omega)) (.sub (.inr ⟨_, rfl, fun h => h⟩) (Sub.rowsF (rps := ms) (by repeat (first | exact List.mem_cons_self | apply List.mem_cons_of_mem)) (by repeat (first | exact List.mem_cons_self | apply List.mem_cons_of_mem)) hmc hmm) (.sub (.inr ⟨_, rfl, fun h => h⟩) (Sub.rowsF (rps := ps.take nn) (by repeat (first | exact List.mem_cons_self | apply List.mem_cons_of_mem)) (by repeat (first | exact List.mem_cons_self | apply List.mem_cons_of_mem)) (by omega) (by rw [← hpm, List.map_take])) .nil))) ?_
          refine RT.g rfl rfl rfl (fun hg => ob_not (.inr ⟨_, rfl, fun h => h⟩)) ?_
          refine RT.t (ob_pickOr rfl rfl rfl id) ?_
          refine RT.nil ?_
          refine FinS.nil0 ?_
          repeat (first | refine JX.next ?_ | refine JX.normal_block ?_)
          refine J.sel [1, 2, 5, 87] (.cons rfl (.cons rfl (.cons rfl (.cons rfl .nil)))) ?_
          repeat refine J.seq ?_
          refine J.cond rfl (fun ht87 => ?_) (fun ht87 => ?_)
          ·
            try simp only [decide_eq_true_eq, decide_eq_false_iff_not] at ht87
            exfalso
            rw [hpl, (sameR_iff _ _).2 hcut] at ht87; simp at ht87
          ·
            try simp only [decide_eq_true_eq, decide_eq_false_iff_not] at ht87
            refine J.skip ?_
            repeat (first | refine JX.next ?_ | refine JX.normal_block ?_)
            have hrk : rps.length = kps.length := by
              have h := (allOk_len hok).1
              rwa [← hrm, ← hkm, List.length_map, List.length_map] at h
            repeat refine J.seq ?_
            refine J.plain ?_
            refine JO.buildOwn0 sl_sl_sl_api_Value rfl (fun b88 => ?_)
            refine JO.t (ob_fieldAddr fo_cadastrelaw15_Ask_0 rfl) rfl ?_
            refine JO.t (ob_ld1 sz_sl_sl_api_Value rfl rfl) rfl ?_
            refine JO.apS (rps) ap_sl_sl_api_Value (by repeat (first | exact .here | apply Cx.past | apply Cx.there)) (xs := []) (en := RV.c) ⟨rfl, Nat.le_refl _, rfl⟩ rfl rfl (fun L => src_slF RV.c_len (by omega) RV.c_one un_sl_sl_api_Value (by repeat (first | exact List.mem_cons_self | apply List.mem_cons_of_mem))) (by simp; omega) (by simp; omega) rfl (fun p1 cp1 hG1 => ?_)
            try dsimp only
            rw [List.nil_append] at hG1 ⊢
            refine JO.t (ob_assign rfl) rfl ?_
            refine JO.nil ?_
            repeat (first | refine JX.next ?_ | refine JX.normal_block ?_)
            refine J.sel [1, 2, 5, 10] (.cons rfl (.cons rfl (.cons rfl (.cons rfl .nil)))) ?_
            repeat refine J.seq ?_
            refine J.plain ?_
            refine JO.buildOwn0 sl_sl_sl_api_Value rfl (fun b92 => ?_)
            refine JO.t (ob_fieldAddr fo_cadastrelaw15_Ask_1 rfl) rfl ?_
            refine JO.t (ob_ld1 sz_sl_sl_api_Value rfl rfl) rfl ?_
            refine JO.apS (kps) ap_sl_sl_api_Value (by repeat (first | exact .here | apply Cx.past | apply Cx.there)) (xs := []) (en := RV.c) ⟨rfl, Nat.le_refl _, rfl⟩ rfl rfl (fun L => src_slF RV.c_len (by omega) RV.c_one un_sl_sl_api_Value (by repeat (first | exact List.mem_cons_self | apply List.mem_cons_of_mem))) (by simp; omega) (by simp; omega) rfl (fun p2 cp2 hG2 => ?_)
            try dsimp only
            rw [List.nil_append] at hG2 ⊢
            refine JO.t (ob_assign rfl) rfl ?_
            refine JO.nil ?_
            repeat (first | refine JX.next ?_ | refine JX.normal_block ?_)
            refine J.sel [1, 2, 5, 10, 11] (.cons rfl (.cons rfl (.cons rfl (.cons rfl (.cons rfl .nil))))) ?_
            obtain ⟨rb1, c1⟩ := p1
            obtain ⟨kb1, c2⟩ := p2
            have hcp1 : rps.length ≤ cp1 := hG1.2.1
            have hcp2 : kps.length ≤ cp2 := hG2.2.1
            repeat refine J.seq ?_
            refine J.plain ?_
            refine JO.t (ob_assign rfl) rfl ?_
            refine JO.nil ?_
            repeat (first | refine JX.next ?_ | refine JX.normal_block ?_)
            refine J.sel [1, 2, 5, 10, 11, 12] (.cons rfl (.cons rfl (.cons rfl (.cons rfl (.cons rfl (.cons rfl .nil)))))) ?_
            repeat refine J.seq ?_
            refine J.block ?_
            repeat refine J.seq ?_
            refine J.loopG (α := Nat × List LV × List Value × List Value) (fun y => [(1, .is (.slice ua picks.length uc)), (2, .is (.pointer (some ⟨b2, 0, none⟩))), (5, .is (.slice pa ps.length pc)), (10, .is (.slice (some ⟨rb1, 0, none⟩) rps.length cp1)), (11, .is (.slice (some ⟨kb1, 0, none⟩) kps.length cp2)), (12, .is (.int .i64 (y.1 : Nat)))]) (fun y => [⟨kb1, ty_sl_api_Value, .is (.agg (y.2.2.2).toArray)⟩, ⟨rb1, ty_sl_api_Value, .is (.agg (y.2.2.1).toArray)⟩, ⟨b2, 25, .is (.agg [.slice ra rps.length rc, .slice ka kps.length kc, .slice da dn.length dc, .int .i64 limit].toArray)⟩]) (fun y => fun _ => True) (fun y => y.2.1.Perm (lvs rps kps) ∧ Grows RV.c 1 (y.2.1.map LV.r) (some (rb1, y.2.2.1)) cp1 ∧ Grows RV.c 1 (y.2.1.map LV.k) (some (kb1, y.2.2.2)) cp2) (fun y => picks.length - y.1) (0, lvs rps kps, c1, c2) [1, 2, 5, 10, 11, 12] (.cons rfl (.cons rfl (.cons rfl (.cons rfl (.cons rfl (.cons rfl .nil)))))) rfl (fun _ => trivial) ⟨.refl _, by show Grows RV.c 1 ((lvs rps kps).map LV.r) _ _; rw [lvs_r hrk]; exact hG1, by show Grows RV.c 1 ((lvs rps kps).map LV.k) _ _; rw [lvs_k hrk]; exact hG2⟩ fun ⟨i, ls, d1, d2⟩ ⟨hls, hg1, hg2⟩ => ?_
            try dsimp only
            try dsimp only at ls
            try dsimp only at d1
            try dsimp only at d2
            try dsimp only at hls
            try dsimp only at hg1
            try dsimp only at hg2
            repeat refine J.seq ?_
            refine J.reg0 hmx (by kernel_rfl) (by kernel_rfl) ?_
            refine RT.t (ob_move rfl) ?_
            refine RT.t (ob_move rfl) ?_
            refine RT.t (ob_len un_sl_uint8 rfl) ?_
            refine RT.t (ob_lss rfl rfl) ?_
            refine RT.t (ob_move rfl) ?_
            refine RT.g rfl rfl rfl (fun hg => ob_move (.inl rfl)) ?_
            refine RT.g rfl rfl rfl (fun hg => ob_len un_sl_sl_api_Value (.inr ⟨_, rfl, fun h => h⟩)) ?_
            refine RT.g rfl rfl rfl (fun hg => ob_gtr (.inr ⟨_, rfl, fun h => h⟩) (.inl rfl)) ?_
            refine RT.t (ob_pickAnd rfl rfl rfl id) ?_
            refine RT.nil ?_
            refine FinS.nil0 ?_
            repeat (first | refine JX.next ?_ | refine JX.normal_block ?_)
            refine J.sel [1, 2, 5, 10, 11, 12, 104] (.cons rfl (.cons rfl (.cons rfl (.cons rfl (.cons rfl (.cons rfl (.cons rfl .nil))))))) ?_
            repeat refine J.seq ?_
            refine J.cond rfl (fun ht104 => ?_) (fun ht104 => ?_)
            ·
              try simp only [decide_eq_true_eq, decide_eq_false_iff_not] at ht104
              refine J.skip ?_
              repeat (first | refine JX.next ?_ | refine JX.normal_block ?_)
              repeat refine J.seq ?_
              refine J.block ?_
              simp only [Bool.and_eq_true, decide_eq_true_eq] at ht104
              obtain ⟨hi1, hi2⟩ := ht104
              have hll : ls.length = rps.length := by rw [hls.length_eq, lvs_len hrk]
              obtain ⟨x, hx⟩ : ∃ x, x = i % rps.length := ⟨_, rfl⟩
              obtain ⟨y, hy⟩ : ∃ y, y = (picks.getD i 0).toNat % rps.length := ⟨_, rfl⟩
              have hxl : x < rps.length := by rw [hx]; exact Nat.mod_lt _ (by omega)
              have hyl : y < rps.length := by rw [hy]; exact Nat.mod_lt _ (by omega)
              have hg1a := gr_set hg1 (i := x) (off := x) (by rw [List.length_map]; omega) ((ls.map LV.r).getD y rv0) rfl
              have hg1b := gr_set hg1a (i := y) (off := y) (by rw [List.length_set, List.length_map]; omega) ((ls.map LV.r).getD x rv0) rfl
              rw [map_swp (d := lv0) LV.r (by omega) (by omega)] at hg1b
              have hg2a := gr_set hg2 (i := x) (off := x) (by rw [List.length_map]; omega) ((ls.map LV.k).getD y rv0) rfl
              have hg2b := gr_set hg2a (i := y) (off := y) (by rw [List.length_set, List.length_map]; omega) ((ls.map LV.k).getD x rv0) rfl
              rw [map_swp (d := lv0) LV.k (by omega) (by omega)] at hg2b
              repeat refine J.seq ?_
              refine J.plain ?_
              refine JO.t (ob_move rfl) rfl ?_
              refine JO.t (ob_move rfl) rfl ?_
              refine JO.t (ob_len un_sl_sl_api_Value rfl) rfl ?_
              refine JO.t (ob_remv (v := ((x : Nat) : Int)) rfl rfl (by omega) (by rw [hx, Int.ofNat_tmod])) rfl ?_
              refine JO.t (ob_assign rfl) rfl ?_
              refine JO.nil ?_
              repeat (first | refine JX.next ?_ | refine JX.normal_block ?_)
              refine J.sel [1, 2, 5, 10, 11, 12, 13] (.cons rfl (.cons rfl (.cons rfl (.cons rfl (.cons rfl (.cons rfl (.cons rfl .nil))))))) ?_
              repeat refine J.seq ?_
              refine J.plain ?_
              refine JO.t (ob_move rfl) rfl ?_
              refine JO.t (ob_move rfl) rfl ?_
              refine JO.t (ob_indexAddr el_sl_uint8 rfl (hua (by omega)) rfl (by omega) (by omega)) rfl ?_
              refine JO.t (ob_loadG1 (enc := bC) (sz := 1) (len := picks.length) (i := i) (j := 0) (y := picks.getD i 0) sz_uint8 rfl (by repeat (first | exact List.mem_cons_self | apply List.mem_cons_of_mem)) (hua (by omega)) (getD_some (by omega)) (by omega) rfl) rfl ?_
              refine JO.t (ob_convIIe (cc := (((picks.getD i 0).toNat : Nat) : Int)) ⟨_, un_uint8⟩ un_int rfl (wrap64_eq (by omega) (by have := (picks.getD i 0).toNat_lt; omega))) rfl ?_
              refine JO.t (ob_move rfl) rfl ?_
              refine JO.t (ob_len un_sl_sl_api_Value rfl) rfl ?_
              refine JO.t (ob_remv (v := ((y : Nat) : Int)) rfl rfl (by omega) (by rw [hy, Int.ofNat_tmod])) rfl ?_
              refine JO.t (ob_assign rfl) rfl ?_
              refine JO.nil ?_
              repeat (first | refine JX.next ?_ | refine JX.normal_block ?_)
              refine J.sel [1, 2, 5, 10, 11, 12, 13, 14] (.cons rfl (.cons rfl (.cons rfl (.cons rfl (.cons rfl (.cons rfl (.cons rfl (.cons rfl .nil)))))))) ?_
              repeat refine J.seq ?_
              refine J.regFs 13 [(2, 121, 10), (3, 122, 14)] hmx (by kernel_rfl) rfl rfl rfl (fun _ _ h => by cases h) (by simp [Op.operands]) (by kernel_rfl) ?_
              refine RT.t (ob_move rfl) ?_
              refine RT.t (ob_move rfl) ?_
              refine RT.t (ob_move rfl) ?_
              refine RT.t (ob_move rfl) ?_
              refine RT.t (ob_move rfl) ?_
              refine RT.t (ob_move rfl) ?_
              refine RT.t (ob_indexAddr el_sl_sl_api_Value rfl rfl rfl (by omega) (by omega)) ?_
              refine RT.t (ob_ld1 sz_sl_api_Value rfl (gr_nth hg1 (i := y) (by rw [List.length_map]; omega) (by omega))) ?_
              refine RT.t (ob_move rfl) ?_
              refine RT.t (ob_move rfl) ?_
              refine RT.t (ob_indexAddr el_sl_sl_api_Value rfl rfl rfl (by omega) (by omega)) ?_
              refine RT.t (ob_ld1 sz_sl_api_Value rfl (gr_nth hg1 (i := x) (by rw [List.length_map]; omega) (by omega))) ?_
              refine RT.t (ob_indexAddr el_sl_sl_api_Value rfl rfl rfl (by omega) (by omega)) ?_
              refine RT.nil ?_
              refine FinS.tailF (L' := [⟨kb1, ty_sl_api_Value, .is (.agg (d2).toArray)⟩, ⟨rb1, ty_sl_api_Value, .is (.agg (splice d1 x [((ls.map LV.r).getD y rv0).v]).toArray)⟩, ⟨b2, 25, .is (.agg [.slice ra rps.length rc, .slice ka kps.length kc, .slice da dn.length dc, .int .i64 limit].toArray)⟩]) ?_ ?_ ?_
              rotate_left
              · exact obm_storeF1 (cs := d1) (cs' := splice d1 x [((ls.map LV.r).getD y rv0).v]) rfl rfl rfl rfl (by repeat (first | exact .here | apply Upd.there)) (by rw [show 0 + Int.toNat (x : Int) * 1 = x by omega]) (Nat.ble_eq_true_of_le (by have := gr_len hg1; simp only [List.length_map, List.length_set] at this; omega)) ss_sl_api_Value
              rotate_left
              · rfl
              refine JO.t (ob_indexAddr el_sl_sl_api_Value rfl rfl rfl (by omega) (by omega)) rfl ?_
              refine JO.m (obm_storeF1 (cs := splice d1 x [((ls.map LV.r).getD y rv0).v]) (cs' := splice (splice d1 x [((ls.map LV.r).getD y rv0).v]) y [((ls.map LV.r).getD x rv0).v]) rfl rfl rfl rfl (by repeat (first | exact .here | apply Upd.there)) (by rw [show 0 + Int.toNat (y : Int) * 1 = y by omega]) (Nat.ble_eq_true_of_le (by have := gr_len hg1a; simp only [List.length_map, List.length_set] at this; omega)) ss_sl_api_Value) (by rfl) ?_
              refine JO.nil ?_
              repeat (first | refine JX.next ?_ | refine JX.normal_block ?_)
              refine J.sel [1, 2, 5, 10, 11, 12, 13, 14] (.cons rfl (.cons rfl (.cons rfl (.cons rfl (.cons rfl (.cons rfl (.cons rfl (.cons rfl .nil)))))))) ?_
              repeat refine J.seq ?_
              refine J.regFs 13 [(2, 135, 11), (3, 136, 14)] hmx (by kernel_rfl) rfl rfl rfl (fun _ _ h => by cases h) (by simp [Op.operands]) (by kernel_rfl) ?_
              refine RT.t (ob_move rfl) ?_
              refine RT.t (ob_move rfl) ?_
              refine RT.t (ob_move rfl) ?_
              refine RT.t (ob_move rfl) ?_
              refine RT.t (ob_move rfl) ?_
              refine RT.t (ob_move rfl) ?_
              refine RT.t (ob_indexAddr el_sl_sl_api_Value rfl rfl rfl (by omega) (by omega)) ?_
              refine RT.t (ob_ld1 sz_sl_api_Value rfl (gr_nth hg2 (i := y) (by rw [List.length_map]; omega) (by omega))) ?_
              refine RT.t (ob_move rfl) ?_
              refine RT.t (ob_move rfl) ?_
              refine RT.t (ob_indexAddr el_sl_sl_api_Value rfl rfl rfl (by omega) (by omega)) ?_
              refine RT.t (ob_ld1 sz_sl_api_Value rfl (gr_nth hg2 (i := x) (by rw [List.length_map]; omega) (by omega))) ?_
              refine RT.t (ob_indexAddr el_sl_sl_api_Value rfl rfl rfl (by omega) (by omega)) ?_
              refine RT.nil ?_
              refine FinS.tailF (L' := [⟨kb1, ty_sl_api_Value, .is (.agg (splice d2 x [((ls.map LV.k).getD y rv0).v]).toArray)⟩, ⟨rb1, ty_sl_api_Value, .is (.agg (splice (splice d1 x [((ls.map LV.r).getD y rv0).v]) y [((ls.map LV.r).getD x rv0).v]).toArray)⟩, ⟨b2, 25, .is (.agg [.slice ra rps.length rc, .slice ka kps.length kc, .slice da dn.length dc, .int .i64 limit].toArray)⟩]) ?_ ?_ ?_
              rotate_left
              · exact obm_storeF1 (cs := d2) (cs' := splice d2 x [((ls.map LV.k).getD y rv0).v]) rfl rfl rfl rfl (by repeat (first | exact .here | apply Upd.there)) (by rw [show 0 + Int.toNat (x : Int) * 1 = x by omega]) (Nat.ble_eq_true_of_le (by have := gr_len hg2; simp only [List.length_map, List.length_set] at this; omega)) ss_sl_api_Value
              rotate_left
              · rfl
              refine JO.t (ob_indexAddr el_sl_sl_api_Value rfl rfl rfl (by omega) (by omega)) rfl ?_
              refine JO.m (obm_storeF1 (cs := splice d2 x [((ls.map LV.k).getD y rv0).v]) (cs' := splice (splice d2 x [((ls.map LV.k).getD y rv0).v]) y [((ls.map LV.k).getD x rv0).v]) rfl rfl rfl rfl (by repeat (first | exact .here | apply Upd.there)) (by rw [show 0 + Int.toNat (y : Int) * 1 = y by omega]) (Nat.ble_eq_true_of_le (by have := gr_len hg2a; simp only [List.length_map, List.length_set] at this; omega)) ss_sl_api_Value) (by rfl) ?_
              refine JO.nil ?_
              repeat (first | refine JX.next ?_ | refine JX.normal_block ?_)
              refine J.sel [1, 2, 5, 10, 11, 12] (.cons rfl (.cons rfl (.cons rfl (.cons rfl (.cons rfl (.cons rfl .nil)))))) ?_
              repeat refine J.seq ?_
              refine J.plain ?_
              refine JO.t (ob_move rfl) rfl ?_
              refine JO.t (ob_addc (cc := ((i + 1 : Nat) : Int)) rfl rfl (by omega) (by omega) (by omega)) rfl ?_
              refine JO.t (ob_assign rfl) rfl ?_
              refine JO.nil ?_
              repeat refine JX.normal_block ?_
              refine JX.roundG (x := (i, ls, d1, d2)) (i + 1, swp lv0 ls x y, splice (splice d1 x [((ls.map LV.r).getD y rv0).v]) y [((ls.map LV.r).getD x rv0).v], splice (splice d2 x [((ls.map LV.k).getD y rv0).v]) y [((ls.map LV.k).getD x rv0).v]) ?_ ?_ [1, 2, 5, 10, 11, 12] ?_ ?_ ?_ ?_
              · exact ⟨(swp_perm (by omega) (by omega)).trans hls, hg1b, hg2b⟩
              · exact (by show picks.length - (i + 1) < picks.length - i; omega)
              · exact (.cons rfl (.cons rfl (.cons rfl (.cons rfl (.cons rfl (.cons rfl .nil))))))
              · repeat (first | exact .all | exact .nil | refine Has.own (by repeat (first | exact .here | apply Tl.past | apply Tl.there)) ?_ | refine Has.cons (by repeat (first | exact .here | apply Pk.past | apply Pk.there)) ?_)
              · exact fun G hG => by repeat (first | exact hG | refine List.mem_cons_of_mem _ ?_)
              · exact fun _ _ _ => fun _ _ => trivial
            ·
              try simp only [decide_eq_true_eq, decide_eq_false_iff_not] at ht104
              repeat refine J.seq ?_
              refine J.exit ?_
              repeat (first | refine JX.hit ?_ | refine JX.miss rfl ?_ | refine JX.exit_pass ?_)
              repeat (first | refine JX.next ?_ | refine JX.normal_block ?_)
              have hll : ls.length = rps.length := by rw [hls.length_eq, lvs_len hrk]
              refine J.freezeO (L' := [⟨rb1, ty_sl_api_Value, .is (.agg d1.toArray)⟩, ⟨b2, 25, .is (.agg [.slice ra rps.length rc, .slice ka kps.length kc, .slice da dn.length dc, .int .i64 limit].toArray)⟩]) RV.c_len hg2 (e := ty_sl_api_Value) tl_own (fun _ h => h) rfl rfl ?_
              refine J.freezeO (L' := [⟨b2, 25, .is (.agg [.slice ra rps.length rc, .slice ka kps.length kc, .slice da dn.length dc, .int .i64 limit].toArray)⟩]) RV.c_len hg1 (e := ty_sl_api_Value) tl_own (fun _ h => h) rfl rfl ?_
              refine J.freeze (b := b2) (e := 25) (cs := [.slice ra rps.length rc, .slice ka kps.length kc, .slice da dn.length dc, .int .i64 limit]) (fun _ h => h) rfl rfl ?_
              rw [show (ls.map LV.r).length = rps.length by rw [List.length_map]; exact hll, show (ls.map LV.k).length = kps.length by rw [List.length_map]; omega]
              refine J.rvSub (rps := rps) (ps := ls.map LV.r) (by repeat (first | exact List.mem_cons_self | apply List.mem_cons_of_mem)) (fun p hp => by
                obtain ⟨q, hq, rfl⟩ := List.mem_map.1 hp
                exact (lvs_mem (hls.mem_iff.1 hq)).1) ?_
              refine J.rvSub (rps := kps) (ps := ls.map LV.k) (by repeat (first | exact List.mem_cons_self | apply List.mem_cons_of_mem)) (fun p hp => by
                obtain ⟨q, hq, rfl⟩ := List.mem_map.1 hp
                exact (lvs_mem (hls.mem_iff.1 hq)).2) ?_
              have hTp : topO ((ls.map LV.r).map RV.row) ((ls.map LV.k).map RV.row) dn (-1) = topO rows keys dn (-1) ∧ topE ((ls.map LV.r).map RV.row) ((ls.map LV.k).map RV.row) dn = topE rows keys dn := topO_perm (by simp) hok (by rw [zip_lines, ← hrm, ← hkm, ← lvs_ln]; exact hls.map _)
              have hn2 : ((ls.map LV.r).map RV.row).length ≤ 1048576 := by rw [List.length_map, List.length_map]; omega
              have hR2 : ∀ r ∈ (ls.map LV.r).map RV.row, r.length ≤ 1048576 := fun r hr => by
                obtain ⟨p, hp, rfl⟩ := List.mem_map.1 hr
                obtain ⟨q, hq, rfl⟩ := List.mem_map.1 hp
                exact hR _ (by rw [← hrm]; exact List.mem_map_of_mem (lvs_mem (hls.mem_iff.1 hq)).1)
              have hK2 : ∀ r ∈ (ls.map LV.k).map RV.row, r.length ≤ 1048576 := fun r hr => by
                obtain ⟨p, hp, rfl⟩ := List.mem_map.1 hr
                obtain ⟨q, hq, rfl⟩ := List.mem_map.1 hp
                exact hK _ (by rw [← hkm]; exact List.mem_map_of_mem (lvs_mem (hls.mem_iff.1 hq)).2)
              refine J.mark (fun E0 w0 hW0 hE0 => ?_)
              repeat refine J.seq ?_
              refine J.plain ?_
              refine JO.t (ob_move rfl) rfl ?_
              refine JO.t (ob_move rfl) rfl ?_
              refine JO.t (ob_fieldAddr fo_cadastrelaw15_Ask_2 rfl) rfl ?_
              refine JO.t (ob_ldF1 (b := b2) (cs := [.slice ra rps.length rc, .slice ka kps.length kc, .slice da dn.length dc, .int .i64 limit]) sz_sl_bool rfl (by repeat (first | exact List.mem_cons_self | apply List.mem_cons_of_mem)) rfl) rfl ?_
              refine JO.t (ob_call rfl (c_order_Top w0.heap.size ((ls.map LV.r).map RV.row) ((ls.map LV.k).map RV.row) dn (-1) hn2 hR2 hK2 hdn) (.sub rfl (Sub.rowsF (rps := ls.map LV.r) (by repeat (first | exact List.mem_cons_self | apply List.mem_cons_of_mem)) (by repeat (first | exact List.mem_cons_self | apply List.mem_cons_of_mem)) hcp1 rfl) (.sub rfl (Sub.rowsF (rps := ls.map LV.k) (by repeat (first | exact List.mem_cons_self | apply List.mem_cons_of_mem)) (by repeat (first | exact List.mem_cons_self | apply List.mem_cons_of_mem)) hcp2 rfl) (.sub rfl (Sub.nsl (Sub.slFactC (by repeat (first | exact List.mem_cons_self | apply List.mem_cons_of_mem)) hdc) (by repeat (first | exact List.mem_cons_self | apply List.mem_cons_of_mem))) (.one rfl .nil))))) rfl ?_
              refine JO.t (ob_move rfl) rfl ?_
              refine JO.t (ob_extract0 rfl) rfl ?_
              refine JO.t (ob_extract1 rfl) rfl ?_
              refine JO.t (ob_assign rfl) rfl ?_
              refine JO.t (ob_assign rfl) rfl ?_
              refine JO.nil ?_
              repeat (first | refine JX.next ?_ | refine JX.normal_block ?_)
              refine J.sel [2, 5, 15, 16] (.cons rfl (.cons rfl (.cons rfl (.cons rfl .nil)))) ?_
              refine J.openRows (s := 15) rfl (fun qs qa ql qc qb qo hqm hql hqc hqa => ?_)
              subst hql
              rw [hTp.1] at hqm
              refine J.know (∀ p ∈ qs, p.row.length = p.len) (fun E w hG _ => fun p hp => ((hG (RVF qs) (by repeat (first | exact List.mem_cons_self | apply List.mem_cons_of_mem))).now p hp).2.1) (fun hqn => ?_)
              have hqlen : ∀ p ∈ qs, p.len ≤ 1048576 := fun p hp => by
                rw [← hqn p hp]
                exact hlr _ (hqm ▸ List.mem_map_of_mem hp)
              have hql1 : qs.length ≤ 1048576 := by
                have h := congrArg List.length hqm
                rw [List.length_map] at h
                omega
              repeat refine J.seq ?_
              refine J.reg0 hmx (by kernel_rfl) (by kernel_rfl) ?_
              refine RT.t (ob_move rfl) ?_
              refine RT.t (ob_neq rfl rfl) ?_
              refine RT.t (ob_move rfl) ?_
              refine RT.g rfl rfl rfl (fun hg => ob_move (.inl rfl)) ?_
              refine RT.g rfl rfl rfl (fun hg => ob_move (.inl rfl)) ?_
              refine RT.g rfl rfl rfl (fun hg => ob_call (.inl rfl) (c_ref15_Same (topO rows keys dn (-1)) (topO rows keys dn (-1)) (by omega) (fun x hx => by have := hlr x hx; omega)) (.sub (.inr ⟨_, rfl, fun h => h⟩) (Sub.rowsF (rps := qs) (by repeat (first | exact List.mem_cons_self | apply List.mem_cons_of_mem)) (by repeat (first | exact List.mem_cons_self | apply List.mem_cons_of_mem)) hqc hqm) (.sub (.inr ⟨_, rfl, fun h => h⟩) (Sub.rowsF (rps := ps) (by repeat (first | exact List.mem_cons_self | apply List.mem_cons_of_mem)) (by repeat (first | exact List.mem_cons_self | apply List.mem_cons_of_mem)) hpc hpm) .nil))) ?_
              refine RT.g rfl rfl rfl (fun hg => ob_not (.inr ⟨_, rfl, fun h => h⟩)) ?_
              refine RT.t (ob_pickOr rfl rfl rfl id) ?_
              refine RT.nil ?_
              refine FinS.nil0 ?_
              repeat (first | refine JX.next ?_ | refine JX.normal_block ?_)
              refine J.sel [2, 5, 15, 162] (.cons rfl (.cons rfl (.cons rfl (.cons rfl .nil)))) ?_
              repeat refine J.seq ?_
              refine J.cond rfl (fun ht162 => ?_) (fun ht162 => ?_)
              ·
                try simp only [decide_eq_true_eq, decide_eq_false_iff_not] at ht162
                exfalso
                rw [hTp.2, topE_ok hok, (sameR_iff _ _).2 rfl] at ht162; simp at ht162
              ·
                try simp only [decide_eq_true_eq, decide_eq_false_iff_not] at ht162
                refine J.skip ?_
                repeat (first | refine JX.next ?_ | refine JX.normal_block ?_)
                refine J.toStay (qs := qs) (qa := qa) (cap := qc) (tv := ty_api_Value) (ts := ty_sl_api_Value) hE0 (by repeat (first | exact List.mem_cons_self | apply List.mem_cons_of_mem)) (fun F hF => by repeat (first | exact hF | refine List.mem_cons_of_mem _ ?_)) (by repeat (first | exact List.mem_cons_self | apply List.mem_cons_of_mem)) (by repeat (first | exact List.mem_cons_self | apply List.mem_cons_of_mem)) (fun bq hbq => ?_)
                repeat refine J.seq ?_
                refine J.plain ?_
                refine JO.t (ob_assign rfl) rfl ?_
                refine JO.nil ?_
                repeat (first | refine JX.next ?_ | refine JX.normal_block ?_)
                refine J.sel [2, 5, 15, 17] (.cons rfl (.cons rfl (.cons rfl (.cons rfl .nil)))) ?_
                repeat refine J.seq ?_
                refine J.block ?_
                repeat refine J.seq ?_
                refine J.loopF (α := Nat) (fun i => [(2, .is (.pointer (some ⟨b2, 0, none⟩))), (5, .is (.slice pa ps.length pc)), (15, .is (.slice qa qs.length qc)), (17, .is (.int .i64 (i : Nat)))]) (fun i => i ≤ qs.length) (fun i => qs.length - i) 0 [2, 5, 15, 17] (.cons rfl (.cons rfl (.cons rfl (.cons rfl .nil)))) (Nat.zero_le _) fun i hi => ?_
                repeat refine J.seq ?_
                refine J.plain ?_
                refine JO.t (ob_move rfl) rfl ?_
                refine JO.t (ob_move rfl) rfl ?_
                refine JO.t (ob_len un_sl_sl_api_Value rfl) rfl ?_
                refine JO.t (ob_lss rfl rfl) rfl ?_
                refine JO.nil ?_
                repeat (first | refine JX.next ?_ | refine JX.normal_block ?_)
                refine J.sel [2, 5, 15, 17, 166] (.cons rfl (.cons rfl (.cons rfl (.cons rfl (.cons rfl .nil))))) ?_
                repeat refine J.seq ?_
                refine J.cond rfl (fun ht166 => ?_) (fun ht166 => ?_)
                ·
                  try simp only [decide_eq_true_eq, decide_eq_false_iff_not] at ht166
                  refine J.skip ?_
                  repeat (first | refine JX.next ?_ | refine JX.normal_block ?_)
                  repeat refine J.seq ?_
                  refine J.block ?_
                  repeat refine J.seq ?_
                  refine J.plain ?_
                  refine JO.t (ob_assign rfl) rfl ?_
                  refine JO.nil ?_
                  repeat (first | refine JX.next ?_ | refine JX.normal_block ?_)
                  refine J.sel [2, 5, 15, 17, 18] (.cons rfl (.cons rfl (.cons rfl (.cons rfl (.cons rfl .nil))))) ?_
                  repeat refine J.seq ?_
                  refine J.block ?_
                  repeat refine J.seq ?_
                  refine J.loopF (α := Nat) (fun k => [(2, .is (.pointer (some ⟨b2, 0, none⟩))), (5, .is (.slice pa ps.length pc)), (15, .is (.slice qa qs.length qc)), (17, .is (.int .i64 (i : Nat))), (18, .is (.int .i64 (k : Nat)))]) (fun k => k ≤ (qs.getD i rv0).len) (fun k => (qs.getD i rv0).len - k) 0 [2, 5, 15, 17, 18] (.cons rfl (.cons rfl (.cons rfl (.cons rfl (.cons rfl .nil))))) (Nat.zero_le _) fun k hk => ?_
                  have hil : i < qs.length := by omega
                  have hpi := hqlen _ (getD_mem (d := rv0) hil)
                  refine J.outRow (bq := bq) (ts := ty_sl_api_Value) (qs := qs) (qa := qa) (by repeat (first | exact List.mem_cons_self | apply List.mem_cons_of_mem)) (by omega) hbq ?_
                  repeat refine J.seq ?_
                  refine J.plain ?_
                  refine JO.t (ob_move rfl) rfl ?_
                  refine JO.t (ob_move rfl) rfl ?_
                  refine JO.t (ob_move rfl) rfl ?_
                  refine JO.t (ob_indexAddr el_sl_sl_api_Value rfl (hqa (by omega)) rfl (by omega) (by omega)) rfl ?_
                  refine JO.t (ob_loadG1 (enc := RV.c) (sz := 1) (i := i) (j := 0) (y := qs.getD (i) rv0) (u := (qs.getD (i) rv0).v) sz_sl_api_Value rfl (by repeat (first | exact List.mem_cons_self | apply List.mem_cons_of_mem)) (hqa (by omega)) (getD_some (by omega)) (by omega) rfl) rfl ?_
                  refine JO.t (ob_len un_sl_api_Value rfl) rfl ?_
                  refine JO.t (ob_lss rfl rfl) rfl ?_
                  refine JO.nil ?_
                  repeat (first | refine JX.next ?_ | refine JX.normal_block ?_)
                  refine J.sel [2, 5, 15, 17, 18, 175] (.cons rfl (.cons rfl (.cons rfl (.cons rfl (.cons rfl (.cons rfl .nil)))))) ?_
                  repeat refine J.seq ?_
                  refine J.cond rfl (fun ht175 => ?_) (fun ht175 => ?_)
                  ·
                    try simp only [decide_eq_true_eq, decide_eq_false_iff_not] at ht175
                    refine J.skip ?_
                    repeat (first | refine JX.next ?_ | refine JX.normal_block ?_)
                    repeat refine J.seq ?_
                    refine J.block ?_
                    refine J.claimRow (qs := qs) (p := qs.getD i rv0) (tv := ty_api_Value) (ts := ty_sl_api_Value) (bq := bq) hW0 hE0 (by decide) (by repeat (first | exact List.mem_cons_self | apply List.mem_cons_of_mem)) (by repeat (first | exact List.mem_cons_self | apply List.mem_cons_of_mem)) (by repeat (first | exact List.mem_cons_self | apply List.mem_cons_of_mem)) (fun F hF => by repeat (first | exact hF | refine List.mem_cons_of_mem _ ?_)) (getD_mem hil) (by omega) rfl (fun cb cn ccs hca hcl hcc => ?_)
                    refine J.outRow (bq := bq) (ts := ty_sl_api_Value) (qs := qs) (qa := qa) (by repeat (first | exact List.mem_cons_self | apply List.mem_cons_of_mem)) (by omega) hbq ?_
                    repeat refine J.seq ?_
                    refine J.plain ?_
                    refine JO.t (ob_move rfl) rfl ?_
                    refine JO.t (ob_move rfl) rfl ?_
                    refine JO.t (ob_indexAddr el_sl_sl_api_Value rfl (hqa (by omega)) rfl (by omega) (by omega)) rfl ?_
                    refine JO.t (ob_loadG1 (enc := RV.c) (sz := 1) (i := i) (j := 0) (y := qs.getD (i) rv0) (u := (qs.getD (i) rv0).v) sz_sl_api_Value rfl (by repeat (first | exact List.mem_cons_self | apply List.mem_cons_of_mem)) (hqa (by omega)) (getD_some (by omega)) (by omega) rfl) rfl ?_
                    refine JO.t (ob_move rfl) rfl ?_
                    refine JO.t (ob_build (cs := [_, _, _]) sh_api_Value .nil rfl rfl) rfl ?_
                    refine JO.t (ob_indexAddr el_sl_api_Value rfl hca rfl (by omega) (by omega)) rfl ?_
                    refine JO.m (obm_storeF (n := 3) (cs := ccs) rfl rfl (by repeat (first | exact .here | apply Upd.there)) rfl rfl rfl (Nat.ble_eq_true_of_le (by omega)) ss_api_Value) (by rfl) ?_
                    refine JO.nil ?_
                    repeat (first | refine JX.next ?_ | refine JX.normal_block ?_)
                    refine J.sel [2, 5, 15, 17, 18] (.cons rfl (.cons rfl (.cons rfl (.cons rfl (.cons rfl .nil))))) ?_
                    repeat refine J.seq ?_
                    refine J.plain ?_
                    refine JO.t (ob_move rfl) rfl ?_
                    refine JO.t (ob_addc (cc := ((k + 1 : Nat) : Int)) rfl rfl (by omega) (by omega) (by omega)) rfl ?_
                    refine JO.t (ob_assign rfl) rfl ?_
                    refine JO.nil ?_
                    repeat refine JX.normal_block ?_
                    refine JX.roundS (k + 1) ?_ ?_ [2, 5, 15, 17, 18] ?_ ?_ ?_
                    · exact (by omega)
                    · exact (by omega)
                    · exact (.cons rfl (.cons rfl (.cons rfl (.cons rfl (.cons rfl .nil)))))
                    · repeat (first | exact .slnil | exact List.Sublist.refl _ | apply List.Sublist.cons_cons | apply List.Sublist.cons)
                    · repeat (first | exact .slnil | exact List.Sublist.refl _ | apply List.Sublist.cons_cons | apply List.Sublist.cons)
                  ·
                    try simp only [decide_eq_true_eq, decide_eq_false_iff_not] at ht175
                    repeat refine J.seq ?_
                    refine J.exit ?_
                    repeat (first | refine JX.hit ?_ | refine JX.miss rfl ?_ | refine JX.exit_pass ?_)
                    repeat (first | refine JX.next ?_ | refine JX.normal_block ?_)
                    repeat refine J.seq ?_
                    refine J.plain ?_
                    refine JO.t (ob_move rfl) rfl ?_
                    refine JO.t (ob_addc (cc := ((i + 1 : Nat) : Int)) rfl rfl (by omega) (by omega) (by omega)) rfl ?_
                    refine JO.t (ob_assign rfl) rfl ?_
                    refine JO.nil ?_
                    repeat refine JX.normal_block ?_
                    refine JX.roundS (i + 1) ?_ ?_ [2, 5, 15, 17] ?_ ?_ ?_
                    · exact (by omega)
                    · exact (by omega)
                    · exact (.cons rfl (.cons rfl (.cons rfl (.cons rfl .nil))))
                    · repeat (first | exact .slnil | exact List.Sublist.refl _ | apply List.Sublist.cons_cons | apply List.Sublist.cons)
                    · repeat (first | exact .slnil | exact List.Sublist.refl _ | apply List.Sublist.cons_cons | apply List.Sublist.cons)
                ·
                  try simp only [decide_eq_true_eq, decide_eq_false_iff_not] at ht166
                  repeat refine J.seq ?_
                  refine J.exit ?_
                  repeat (first | refine JX.hit ?_ | refine JX.miss rfl ?_ | refine JX.exit_pass ?_)
                  repeat (first | refine JX.next ?_ | refine JX.normal_block ?_)
                  repeat refine J.seq ?_
                  refine J.plain ?_
                  refine JO.t (ob_fieldAddr fo_cadastrelaw15_Ask_0 rfl) rfl ?_
                  refine JO.t (ob_ldF1 (b := b2) (cs := [.slice ra rps.length rc, .slice ka kps.length kc, .slice da dn.length dc, .int .i64 limit]) sz_sl_sl_api_Value rfl (by repeat (first | exact List.mem_cons_self | apply List.mem_cons_of_mem)) rfl) rfl ?_
                  refine JO.t (ob_fieldAddr fo_cadastrelaw15_Ask_1 rfl) rfl ?_
                  refine JO.t (ob_ldF1 (b := b2) (cs := [.slice ra rps.length rc, .slice ka kps.length kc, .slice da dn.length dc, .int .i64 limit]) sz_sl_sl_api_Value rfl (by repeat (first | exact List.mem_cons_self | apply List.mem_cons_of_mem)) rfl) rfl ?_
                  refine JO.t (ob_fieldAddr fo_cadastrelaw15_Ask_2 rfl) rfl ?_
                  refine JO.t (ob_ldF1 (b := b2) (cs := [.slice ra rps.length rc, .slice ka kps.length kc, .slice da dn.length dc, .int .i64 limit]) sz_sl_bool rfl (by repeat (first | exact List.mem_cons_self | apply List.mem_cons_of_mem)) rfl) rfl ?_
                  refine JO.t (ob_call rfl (c_order_Top 0 rows keys dn (-1) hn hR hK hdn) (.sub rfl (Sub.rowsF (rps := rps) (by repeat (first | exact List.mem_cons_self | apply List.mem_cons_of_mem)) (by repeat (first | exact List.mem_cons_self | apply List.mem_cons_of_mem)) hrc hrm) (.sub rfl (Sub.rowsF (rps := kps) (by repeat (first | exact List.mem_cons_self | apply List.mem_cons_of_mem)) (by repeat (first | exact List.mem_cons_self | apply List.mem_cons_of_mem)) hkc hkm) (.sub rfl (Sub.nsl (Sub.slFactC (by repeat (first | exact List.mem_cons_self | apply List.mem_cons_of_mem)) hdc) (by repeat (first | exact List.mem_cons_self | apply List.mem_cons_of_mem))) (.one rfl .nil))))) rfl ?_
                  refine JO.t (ob_move rfl) rfl ?_
                  refine JO.t (ob_extract0 rfl) rfl ?_
                  refine JO.t (ob_extract1 rfl) rfl ?_
                  refine JO.t (ob_assign rfl) rfl ?_
                  refine JO.t (ob_assign rfl) rfl ?_
                  refine JO.nil ?_
                  repeat (first | refine JX.next ?_ | refine JX.normal_block ?_)
                  refine J.sel [5, 16, 19] (.cons rfl (.cons rfl (.cons rfl .nil))) ?_
                  repeat refine J.seq ?_
                  refine J.reg0 hmx (by kernel_rfl) (by kernel_rfl) ?_
                  refine RT.t (ob_move rfl) ?_
                  refine RT.t (ob_eql rfl rfl) ?_
                  refine RT.t (ob_move rfl) ?_
                  refine RT.g rfl rfl rfl (fun hg => ob_move (.inl rfl)) ?_
                  refine RT.g rfl rfl rfl (fun hg => ob_move (.inl rfl)) ?_
                  refine RT.g rfl rfl rfl (fun hg => ob_call (.inl rfl) (c_ref15_Same (topO rows keys dn (-1)) (topO rows keys dn (-1)) (by omega) (fun x hx => by have := hlr x hx; omega)) (.sub (.inr ⟨_, rfl, fun h => h⟩) Sub.rowsW (.sub (.inr ⟨_, rfl, fun h => h⟩) (Sub.rowsF (rps := ps) (by repeat (first | exact List.mem_cons_self | apply List.mem_cons_of_mem)) (by repeat (first | exact List.mem_cons_self | apply List.mem_cons_of_mem)) hpc hpm) .nil))) ?_
                  refine RT.t (ob_pickAnd rfl rfl rfl id) ?_
                  refine RT.t (ob_assign rfl) ?_
                  refine RT.nil ?_
                  refine FinS.nil0 ?_
                  repeat (first | refine JX.next ?_ | refine JX.normal_block ?_)
                  refine J.sel [4] (.cons rfl .nil) ?_
                  repeat refine J.seq ?_
                  refine J.ret ?_
                  repeat (first | refine JX.ret_pass ?_ | refine JX.ret_block ?_)
                  exact JX.ret1is rfl rfl (by rw [topE_ok hok, (sameR_iff _ _).2 rfl]; rfl)
        ·
          try simp only [decide_eq_true_eq, decide_eq_false_iff_not] at ht71
          refine J.skip ?_
          repeat (first | refine JX.next ?_ | refine JX.normal_block ?_)
          obtain ⟨hcut, hlen1⟩ := take_cut (limit := limit) hok
          have hrl : rows.length = rps.length := by rw [← hrm, List.length_map]
          have hpl : ps.length = rps.length := by
            have h := congrArg List.length hpm
            rwa [List.length_map, hlen1, hrl] at h
          obtain ⟨nn, hnn⟩ : ∃ nn, nn = (if limit < 0 then rows.length else min limit.toNat rows.length) := ⟨_, rfl⟩
          rw [← hnn] at hcut
          rw [hrl] at hnn
          have hnn2 : nn = ps.length := by
            rw [hnn]
            split
            · omega
            · simp at ht71; omega
          refine J.coer (s := 9) (T' := .is (.int .i64 (nn : Nat))) rfl (Sub.isEq (by rw [hnn2])) ?_
          have hnp : nn ≤ ps.length := by omega
          refine J.rowTake (n := nn) (xs := ps) (a := pa) (len := ps.length) (en := RV.c) (sz := 1) (by repeat (first | exact List.mem_cons_self | apply List.mem_cons_of_mem)) hnp ?_
          refine J.rvSub (rps := ps) (ps := ps.take nn) (by repeat (first | exact List.mem_cons_self | apply List.mem_cons_of_mem)) (fun p hp => List.mem_of_mem_take hp) ?_
          repeat refine J.seq ?_
          refine J.reg0 hmx (by kernel_rfl) (by kernel_rfl) ?_
          refine RT.t (ob_move rfl) ?_
          refine RT.t (ob_len un_sl_sl_api_Value rfl) ?_
          refine RT.t (ob_fieldAddr fo_cadastrelaw15_Ask_0 rfl) ?_
          refine RT.t (ob_ld1 sz_sl_sl_api_Value rfl rfl) ?_
          refine RT.t (ob_len un_sl_sl_api_Value rfl) ?_
          refine RT.t (ob_neq rfl rfl) ?_
          refine RT.t (ob_move rfl) ?_
          refine RT.g rfl rfl rfl (fun hg => ob_move (.inl rfl)) ?_
          refine RT.g rfl rfl rfl (fun hg => ob_move (.inl rfl)) ?_
          refine RT.g rfl rfl rfl (fun hg => ob_move (.inl rfl)) ?_
          refine RT.g rfl rfl rfl (fun hg => ob_sliceHi un_sl_sl_api_Value el_sl_sl_api_Value (.inr ⟨_, rfl, fun h => h⟩) (.inr ⟨_, rfl, fun h => h⟩) (by omega) (by omega)) ?_
          refine RT.g rfl rfl rfl (fun hg => ob_call (.inl rfl) (c_ref15_Same (topO rows keys dn limit) ((topO rows keys dn (-1)).take nn) (by have := topO_len (rows := rows) (keys := keys) (dn := dn) (limit := limit); omega) (fun x hx => by have := hR x (topO_mem hx); omega)) (.sub (.inr ⟨_, rfl, fun h => h⟩) (Sub.rowsF (rps := ms) (by repeat (first | exact List.mem_cons_self | apply List.mem_cons_of_mem)) (by repeat (first | exact List.mem_cons_self | apply List.mem_cons_of_mem)) hmc hmm) (.sub (.inr ⟨_, rfl, fun h => h⟩) (Sub.rowsF (rps := ps.take nn) (by repeat (first | exact List.mem_cons_self | apply List.mem_cons_of_mem)) (by repeat (first | exact List.mem_cons_self | apply List.mem_cons_of_mem)) (by omega) (by rw [← hpm, List.map_take])) .nil))) ?_
          refine RT.g rfl rfl rfl (fun hg => ob_not (.inr ⟨_, rfl, fun h => h⟩)) ?_
          refine RT.t (ob_pickOr rfl rfl rfl id) ?_
          refine RT.nil ?_
          refine FinS.nil0 ?_
          repeat (first | refine JX.next ?_ | refine JX.normal_block ?_)
          refine J.sel [1, 2, 5, 87] (.cons rfl (.cons rfl (.cons rfl (.cons rfl .nil)))) ?_
          repeat refine J.seq ?_
          refine J.cond rfl (fun ht87 => ?_) (fun ht87 => ?_)
          ·
            try simp only [decide_eq_true_eq, decide_eq_false_iff_not] at ht87
            exfalso
            rw [hpl, (sameR_iff _ _).2 hcut] at ht87; simp at ht87
          ·
            try simp only [decide_eq_true_eq, decide_eq_false_iff_not] at ht87
            refine J.skip ?_
            repeat (first | refine JX.next ?_ | refine JX.normal_block ?_)
            have hrk : rps.length = kps.length := by
              have h := (allOk_len hok).1
              rwa [← hrm, ← hkm, List.length_map, List.length_map] at h
            repeat refine J.seq ?_
            refine J.plain ?_
            refine JO.buildOwn0 sl_sl_sl_api_Value rfl (fun b88 => ?_)
            refine JO.t (ob_fieldAddr fo_cadastrelaw15_Ask_0 rfl) rfl ?_
            refine JO.t (ob_ld1 sz_sl_sl_api_Value rfl rfl) rfl ?_
            refine JO.apS (rps) ap_sl_sl_api_Value (by repeat (first | exact .here | apply Cx.past | apply Cx.there)) (xs := []) (en := RV.c) ⟨rfl, Nat.le_refl _, rfl⟩ rfl rfl (fun L => src_slF RV.c_len (by omega) RV.c_one un_sl_sl_api_Value (by repeat (first | exact List.mem_cons_self | apply List.mem_cons_of_mem))) (by simp; omega) (by simp; omega) rfl (fun p1 cp1 hG1 => ?_)
            try dsimp only
            rw [List.nil_append] at hG1 ⊢
            refine JO.t (ob_assign rfl) rfl ?_
            refine JO.nil ?_
            repeat (first | refine JX.next ?_ | refine JX.normal_block ?_)
            refine J.sel [1, 2, 5, 10] (.cons rfl (.cons rfl (.cons rfl (.cons rfl .nil)))) ?_
            repeat refine J.seq ?_
            refine J.plain ?_
            refine JO.buildOwn0 sl_sl_sl_api_Value rfl (fun b92 => ?_)
            refine JO.t (ob_fieldAddr fo_cadastrelaw15_Ask_1 rfl) rfl ?_
            refine JO.t (ob_ld1 sz_sl_sl_api_Value rfl rfl) rfl ?_
            refine JO.apS (kps) ap_sl_sl_api_Value (by repeat (first | exact .here | apply Cx.past | apply Cx.there)) (xs := []) (en := RV.c) ⟨rfl, Nat.le_refl _, rfl⟩ rfl rfl (fun L => src_slF RV.c_len (by omega) RV.c_one un_sl_sl_api_Value (by repeat (first | exact List.mem_cons_self | apply List.mem_cons_of_mem))) (by simp; omega) (by simp; omega) rfl (fun p2 cp2 hG2 => ?_)
            try dsimp only
            rw [List.nil_append] at hG2 ⊢
            refine JO.t (ob_assign rfl) rfl ?_
            refine JO.nil ?_
            repeat (first | refine JX.next ?_ | refine JX.normal_block ?_)
            refine J.sel [1, 2, 5, 10, 11] (.cons rfl (.cons rfl (.cons rfl (.cons rfl (.cons rfl .nil))))) ?_
            obtain ⟨rb1, c1⟩ := p1
            obtain ⟨kb1, c2⟩ := p2
            have hcp1 : rps.length ≤ cp1 := hG1.2.1
            have hcp2 : kps.length ≤ cp2 := hG2.2.1
            repeat refine J.seq ?_
            refine J.plain ?_
            refine JO.t (ob_assign rfl) rfl ?_
            refine JO.nil ?_
            repeat (first | refine JX.next ?_ | refine JX.normal_block ?_)
            refine J.sel [1, 2, 5, 10, 11, 12] (.cons rfl (.cons rfl (.cons rfl (.cons rfl (.cons rfl (.cons rfl .nil)))))) ?_
            repeat refine J.seq ?_
            refine J.block ?_
            repeat refine J.seq ?_
            refine J.loopG (α := Nat × List LV × List Value × List Value) (fun y => [(1, .is (.slice ua picks.length uc)), (2, .is (.pointer (some ⟨b2, 0, none⟩))), (5, .is (.slice pa ps.length pc)), (10, .is (.slice (some ⟨rb1, 0, none⟩) rps.length cp1)), (11, .is (.slice (some ⟨kb1, 0, none⟩) kps.length cp2)), (12, .is (.int .i64 (y.1 : Nat)))]) (fun y => [⟨kb1, ty_sl_api_Value, .is (.agg (y.2.2.2).toArray)⟩, ⟨rb1, ty_sl_api_Value, .is (.agg (y.2.2.1).toArray)⟩, ⟨b2, 25, .is (.agg [.slice ra rps.length rc, .slice ka kps.length kc, .slice da dn.length dc, .int .i64 limit].toArray)⟩]) (fun y => fun _ => True) (fun y => y.2.1.Perm (lvs rps kps) ∧ Grows RV.c 1 (y.2.1.map LV.r) (some (rb1, y.2.2.1)) cp1 ∧ Grows RV.c 1 (y.2.1.map LV.k) (some (kb1, y.2.2.2)) cp2) (fun y => picks.length - y.1) (0, lvs rps kps, c1, c2) [1, 2, 5, 10, 11, 12] (.cons rfl (.cons rfl (.cons rfl (.cons rfl (.cons rfl (.cons rfl .nil)))))) rfl (fun _ => trivial) ⟨.refl _, by show Grows RV.c 1 ((lvs rps kps).map LV.r) _ _; rw [lvs_r hrk]; exact hG1, by show Grows RV.c 1 ((lvs rps kps).map LV.k) _ _; rw [lvs_k hrk]; exact hG2⟩ fun ⟨i, ls, d1, d2⟩ ⟨hls, hg1, hg2⟩ => ?_
            try dsimp only
            try dsimp only at ls
            try dsimp only at d1
            try dsimp only at d2
            try dsimp only at hls
            try dsimp only at hg1
            try dsimp only at hg2
            repeat refine J.seq ?_
            refine J.reg0 hmx (by kernel_rfl) (by kernel_rfl) ?_
            refine RT.t (ob_move rfl) ?_
            refine RT.t (ob_move rfl) ?_
            refine RT.t (ob_len un_sl_uint8 rfl) ?_
            refine RT.t (ob_lss rfl rfl) ?_
            refine RT.t (ob_move rfl) ?_
            refine RT.g rfl rfl rfl (fun hg => ob_move (.inl rfl)) ?_
            refine RT.g rfl rfl rfl (fun hg => ob_len un_sl_sl_api_Value (.inr ⟨_, rfl, fun h => h⟩)) ?_
            refine RT.g rfl rfl rfl (fun hg => ob_gtr (.inr ⟨_, rfl, fun h => h⟩) (.inl rfl)) ?_
            refine RT.t (ob_pickAnd rfl rfl rfl id) ?_
            refine RT.nil ?_
            refine FinS.nil0 ?_
            repeat (first | refine JX.next ?_ | refine JX.normal_block ?_)
            refine J.sel [1, 2, 5, 10, 11, 12, 104] (.cons rfl (.cons rfl (.cons rfl (.cons rfl (.cons rfl (.cons rfl (.cons rfl .nil))))))) ?_
            repeat refine J.seq ?_
            refine J.cond rfl (fun ht104 => ?_) (fun ht104 => ?_)
            ·
              try simp only [decide_eq_true_eq, decide_eq_false_iff_not] at ht104
              refine J.skip ?_
              repeat (first | refine JX.next ?_ | refine JX.normal_block ?_)
              repeat refine J.seq ?_
              refine J.block ?_
              simp only [Bool.and_eq_true, decide_eq_true_eq] at ht104
              obtain ⟨hi1, hi2⟩ := ht104
              have hll : ls.length = rps.length := by rw [hls.length_eq, lvs_len hrk]
              obtain ⟨x, hx⟩ : ∃ x, x = i % rps.length := ⟨_, rfl⟩
              obtain ⟨y, hy⟩ : ∃ y, y = (picks.getD i 0).toNat % rps.length := ⟨_, rfl⟩
              have hxl : x < rps.length := by rw [hx]; exact Nat.mod_lt _ (by omega)
              have hyl : y < rps.length := by rw [hy]; exact Nat.mod_lt _ (by omega)
              have hg1a := gr_set hg1 (i := x) (off := x) (by rw [List.length_map]; omega) ((ls.map LV.r).getD y rv0) rfl
              have hg1b := gr_set hg1a (i := y) (off := y) (by rw [List.length_set, List.length_map]; omega) ((ls.map LV.r).getD x rv0) rfl
              rw [map_swp (d := lv0) LV.r (by omega) (by omega)] at hg1b
              have hg2a := gr_set hg2 (i := x) (off := x) (by rw [List.length_map]; omega) ((ls.map LV.k).getD y rv0) rfl
              have hg2b := gr_set hg2a (i := y) (off := y) (by rw [List.length_set, List.length_map]; omega) ((ls.map LV.k).getD x rv0) rfl
              rw [map_swp (d := lv0) LV.k (by omega) (by omega)] at hg2b
              repeat refine J.seq ?_
              refine J.plain ?_
              refine JO.t (ob_move rfl) rfl ?_
              refine JO.t (ob_move rfl) rfl ?_
              refine JO.t (ob_len un_sl_sl_api_Value rfl) rfl ?_
              refine JO.t (ob_remv (v := ((x : Nat) : Int)) rfl rfl (by omega) (by rw [hx, Int.ofNat_tmod])) rfl ?_
              refine JO.t (ob_assign rfl) rfl ?_
              refine JO.nil ?_
              repeat (first | refine JX.next ?_ | refine JX.normal_block ?_)
              refine J.sel [1, 2, 5, 10, 11, 12, 13] (.cons rfl (.cons rfl (.cons rfl (.cons rfl (.cons rfl (.cons rfl (.cons rfl .nil))))))) ?_
              repeat refine J.seq ?_
              refine J.plain ?_
              refine JO.t (ob_move rfl) rfl ?_
              refine JO.t (ob_move rfl) rfl ?_
              refine JO.t (ob_indexAddr el_sl_uint8 rfl (hua (by omega)) rfl (by omega) (by omega)) rfl ?_
              refine JO.t (ob_loadG1 (enc := bC) (sz := 1) (len := picks.length) (i := i) (j := 0) (y := picks.getD i 0) sz_uint8 rfl (by repeat (first | exact List.mem_cons_self | apply List.mem_cons_of_mem)) (hua (by omega)) (getD_some (by omega)) (by omega) rfl) rfl ?_
              refine JO.t (ob_convIIe (cc := (((picks.getD i 0).toNat : Nat) : Int)) ⟨_, un_uint8⟩ un_int rfl (wrap64_eq (by omega) (by have := (picks.getD i 0).toNat_lt; omega))) rfl ?_
              refine JO.t (ob_move rfl) rfl ?_
              refine JO.t (ob_len un_sl_sl_api_Value rfl) rfl ?_
              refine JO.t (ob_remv (v := ((y : Nat) : Int)) rfl rfl (by omega) (by rw [hy, Int.ofNat_tmod])) rfl ?_
              refine JO.t (ob_assign rfl) rfl ?_
              refine JO.nil ?_
              repeat (first | refine JX.next ?_ | refine JX.normal_block ?_)
              refine J.sel [1, 2, 5, 10, 11, 12, 13, 14] (.cons rfl (.cons rfl (.cons rfl (.cons rfl (.cons rfl (.cons rfl (.cons rfl (.cons rfl .nil)))))))) ?_
              repeat refine J.seq ?_
              refine J.regFs 13 [(2, 121, 10), (3, 122, 14)] hmx (by kernel_rfl) rfl rfl rfl (fun _ _ h => by cases h) (by simp [Op.operands]) (by kernel_rfl) ?_
              refine RT.t (ob_move rfl) ?_
              refine RT.t (ob_move rfl) ?_
              refine RT.t (ob_move rfl) ?_
              refine RT.t (ob_move rfl) ?_
              refine RT.t (ob_move rfl) ?_
              refine RT.t (ob_move rfl) ?_
              refine RT.t (ob_indexAddr el_sl_sl_api_Value rfl rfl rfl (by omega) (by omega)) ?_
              refine RT.t (ob_ld1 sz_sl_api_Value rfl (gr_nth hg1 (i := y) (by rw [List.length_map]; omega) (by omega))) ?_
              refine RT.t (ob_move rfl) ?_
              refine RT.t (ob_move rfl) ?_
              refine RT.t (ob_indexAddr el_sl_sl_api_Value rfl rfl rfl (by omega) (by omega)) ?_
              refine RT.t (ob_ld1 sz_sl_api_Value rfl (gr_nth hg1 (i := x) (by rw [List.length_map]; omega) (by omega))) ?_
              refine RT.t (ob_indexAddr el_sl_sl_api_Value rfl rfl rfl (by omega) (by omega)) ?_
              refine RT.nil ?_
              refine FinS.tailF (L' := [⟨kb1, ty_sl_api_Value, .is (.agg (d2).toArray)⟩, ⟨rb1, ty_sl_api_Value, .is (.agg (splice d1 x [((ls.map LV.r).getD y rv0).v]).toArray)⟩, ⟨b2, 25, .is (.agg [.slice ra rps.length rc, .slice ka kps.length kc, .slice da dn.length dc, .int .i64 limit].toArray)⟩]) ?_ ?_ ?_
              rotate_left
              · exact obm_storeF1 (cs := d1) (cs' := splice d1 x [((ls.map LV.r).getD y rv0).v]) rfl rfl rfl rfl (by repeat (first | exact .here | apply Upd.there)) (by rw [show 0 + Int.toNat (x : Int) * 1 = x by omega]) (Nat.ble_eq_true_of_le (by have := gr_len hg1; simp only [List.length_map, List.length_set] at this; omega)) ss_sl_api_Value
              rotate_left
              · rfl
              refine JO.t (ob_indexAddr el_sl_sl_api_Value rfl rfl rfl (by omega) (by omega)) rfl ?_
              refine JO.m (obm_storeF1 (cs := splice d1 x [((ls.map LV.r).getD y rv0).v]) (cs' := splice (splice d1 x [((ls.map LV.r).getD y rv0).v]) y [((ls.map LV.r).getD x rv0).v]) rfl rfl rfl rfl (by repeat (first | exact .here | apply Upd.there)) (by rw [show 0 + Int.toNat (y : Int) * 1 = y by omega]) (Nat.ble_eq_true_of_le (by have := gr_len hg1a; simp only [List.length_map, List.length_set] at this; omega)) ss_sl_api_Value) (by rfl) ?_
              refine JO.nil ?_
              repeat (first | refine JX.next ?_ | refine JX.normal_block ?_)
              refine J.sel [1, 2, 5, 10, 11, 12, 13, 14] (.cons rfl (.cons rfl (.cons rfl (.cons rfl (.cons rfl (.cons rfl (.cons rfl (.cons rfl .nil)))))))) ?_
              repeat refine J.seq ?_
              refine J.regFs 13 [(2, 135, 11), (3, 136, 14)] hmx (by kernel_rfl) rfl rfl rfl (fun _ _ h => by cases h) (by simp [Op.operands]) (by kernel_rfl) ?_
              refine RT.t (ob_move rfl) ?_
              refine RT.t (ob_move rfl) ?_
              refine RT.t (ob_move rfl) ?_
              refine RT.t (ob_move rfl) ?_
              refine RT.t (ob_move rfl) ?_
              refine RT.t (ob_move rfl) ?_
              refine RT.t (ob_indexAddr el_sl_sl_api_Value rfl rfl rfl (by omega) (by omega)) ?_
              refine RT.t (ob_ld1 sz_sl_api_Value rfl (gr_nth hg2 (i := y) (by rw [List.length_map]; omega) (by omega))) ?_
              refine RT.t (ob_move rfl) ?_
              refine RT.t (ob_move rfl) ?_
              refine RT.t (ob_indexAddr el_sl_sl_api_Value rfl rfl rfl (by omega) (by omega)) ?_
              refine RT.t (ob_ld1 sz_sl_api_Value rfl (gr_nth hg2 (i := x) (by rw [List.length_map]; omega) (by omega))) ?_
              refine RT.t (ob_indexAddr el_sl_sl_api_Value rfl rfl rfl (by omega) (by omega)) ?_
              refine RT.nil ?_
              refine FinS.tailF (L' := [⟨kb1, ty_sl_api_Value, .is (.agg (splice d2 x [((ls.map LV.k).getD y rv0).v]).toArray)⟩, ⟨rb1, ty_sl_api_Value, .is (.agg (splice (splice d1 x [((ls.map LV.r).getD y rv0).v]) y [((ls.map LV.r).getD x rv0).v]).toArray)⟩, ⟨b2, 25, .is (.agg [.slice ra rps.length rc, .slice ka kps.length kc, .slice da dn.length dc, .int .i64 limit].toArray)⟩]) ?_ ?_ ?_
              rotate_left
              · exact obm_storeF1 (cs := d2) (cs' := splice d2 x [((ls.map LV.k).getD y rv0).v]) rfl rfl rfl rfl (by repeat (first | exact .here | apply Upd.there)) (by rw [show 0 + Int.toNat (x : Int) * 1 = x by omega]) (Nat.ble_eq_true_of_le (by have := gr_len hg2; simp only [List.length_map, List.length_set] at this; omega)) ss_sl_api_Value
              rotate_left
              · rfl
              refine JO.t (ob_indexAddr el_sl_sl_api_Value rfl rfl rfl (by omega) (by omega)) rfl ?_
              refine JO.m (obm_storeF1 (cs := splice d2 x [((ls.map LV.k).getD y rv0).v]) (cs' := splice (splice d2 x [((ls.map LV.k).getD y rv0).v]) y [((ls.map LV.k).getD x rv0).v]) rfl rfl rfl rfl (by repeat (first | exact .here | apply Upd.there)) (by rw [show 0 + Int.toNat (y : Int) * 1 = y by omega]) (Nat.ble_eq_true_of_le (by have := gr_len hg2a; simp only [List.length_map, List.length_set] at this; omega)) ss_sl_api_Value) (by rfl) ?_
              refine JO.nil ?_
              repeat (first | refine JX.next ?_ | refine JX.normal_block ?_)
              refine J.sel [1, 2, 5, 10, 11, 12] (.cons rfl (.cons rfl (.cons rfl (.cons rfl (.cons rfl (.cons rfl .nil)))))) ?_
              repeat refine J.seq ?_
              refine J.plain ?_
              refine JO.t (ob_move rfl) rfl ?_
              refine JO.t (ob_addc (cc := ((i + 1 : Nat) : Int)) rfl rfl (by omega) (by omega) (by omega)) rfl ?_
              refine JO.t (ob_assign rfl) rfl ?_
              refine JO.nil ?_
              repeat refine JX.normal_block ?_
              refine JX.roundG (x := (i, ls, d1, d2)) (i + 1, swp lv0 ls x y, splice (splice d1 x [((ls.map LV.r).getD y rv0).v]) y [((ls.map LV.r).getD x rv0).v], splice (splice d2 x [((ls.map LV.k).getD y rv0).v]) y [((ls.map LV.k).getD x rv0).v]) ?_ ?_ [1, 2, 5, 10, 11, 12] ?_ ?_ ?_ ?_
              · exact ⟨(swp_perm (by omega) (by omega)).trans hls, hg1b, hg2b⟩
              · exact (by show picks.length - (i + 1) < picks.length - i; omega)
              · exact (.cons rfl (.cons rfl (.cons rfl (.cons rfl (.cons rfl (.cons rfl .nil))))))
              · repeat (first | exact .all | exact .nil | refine Has.own (by repeat (first | exact .here | apply Tl.past | apply Tl.there)) ?_ | refine Has.cons (by repeat (first | exact .here | apply Pk.past | apply Pk.there)) ?_)
              · exact fun G hG => by repeat (first | exact hG | refine List.mem_cons_of_mem _ ?_)
              · exact fun _ _ _ => fun _ _ => trivial
            ·
              try simp only [decide_eq_true_eq, decide_eq_false_iff_not] at ht104
              repeat refine J.seq ?_
              refine J.exit ?_
              repeat (first | refine JX.hit ?_ | refine JX.miss rfl ?_ | refine JX.exit_pass ?_)
              repeat (first | refine JX.next ?_ | refine JX.normal_block ?_)
              have hll : ls.length = rps.length := by rw [hls.length_eq, lvs_len hrk]
              refine J.freezeO (L' := [⟨rb1, ty_sl_api_Value, .is (.agg d1.toArray)⟩, ⟨b2, 25, .is (.agg [.slice ra rps.length rc, .slice ka kps.length kc, .slice da dn.length dc, .int .i64 limit].toArray)⟩]) RV.c_len hg2 (e := ty_sl_api_Value) tl_own (fun _ h => h) rfl rfl ?_
              refine J.freezeO (L' := [⟨b2, 25, .is (.agg [.slice ra rps.length rc, .slice ka kps.length kc, .slice da dn.length dc, .int .i64 limit].toArray)⟩]) RV.c_len hg1 (e := ty_sl_api_Value) tl_own (fun _ h => h) rfl rfl ?_
              refine J.freeze (b := b2) (e := 25) (cs := [.slice ra rps.length rc, .slice ka kps.length kc, .slice da dn.length dc, .int .i64 limit]) (fun _ h => h) rfl rfl ?_
              rw [show (ls.map LV.r).length = rps.length by rw [List.length_map]; exact hll, show (ls.map LV.k).length = kps.length by rw [List.length_map]; omega]
              refine J.rvSub (rps := rps) (ps := ls.map LV.r) (by repeat (first | exact List.mem_cons_self | apply List.mem_cons_of_mem)) (fun p hp => by
                obtain ⟨q, hq, rfl⟩ := List.mem_map.1 hp
                exact (lvs_mem (hls.mem_iff.1 hq)).1) ?_
              refine J.rvSub (rps := kps) (ps := ls.map LV.k) (by repeat (first | exact List.mem_cons_self | apply List.mem_cons_of_mem)) (fun p hp => by
                obtain ⟨q, hq, rfl⟩ := List.mem_map.1 hp
                exact (lvs_mem (hls.mem_iff.1 hq)).2) ?_
              have hTp : topO ((ls.map LV.r).map RV.row) ((ls.map LV.k).map RV.row) dn (-1) = topO rows keys dn (-1) ∧ topE ((ls.map LV.r).map RV.row) ((ls.map LV.k).map RV.row) dn = topE rows keys dn := topO_perm (by simp) hok (by rw [zip_lines, ← hrm, ← hkm, ← lvs_ln]; exact hls.map _)
              have hn2 : ((ls.map LV.r).map RV.row).length ≤ 1048576 := by rw [List.length_map, List.length_map]; omega
              have hR2 : ∀ r ∈ (ls.map LV.r).map RV.row, r.length ≤ 1048576 := fun r hr => by
                obtain ⟨p, hp, rfl⟩ := List.mem_map.1 hr
                obtain ⟨q, hq, rfl⟩ := List.mem_map.1 hp
                exact hR _ (by rw [← hrm]; exact List.mem_map_of_mem (lvs_mem (hls.mem_iff.1 hq)).1)
              have hK2 : ∀ r ∈ (ls.map LV.k).map RV.row, r.length ≤ 1048576 := fun r hr => by
                obtain ⟨p, hp, rfl⟩ := List.mem_map.1 hr
                obtain ⟨q, hq, rfl⟩ := List.mem_map.1 hp
                exact hK _ (by rw [← hkm]; exact List.mem_map_of_mem (lvs_mem (hls.mem_iff.1 hq)).2)
              refine J.mark (fun E0 w0 hW0 hE0 => ?_)
              repeat refine J.seq ?_
              refine J.plain ?_
              refine JO.t (ob_move rfl) rfl ?_
              refine JO.t (ob_move rfl) rfl ?_
              refine JO.t (ob_fieldAddr fo_cadastrelaw15_Ask_2 rfl) rfl ?_
              refine JO.t (ob_ldF1 (b := b2) (cs := [.slice ra rps.length rc, .slice ka kps.length kc, .slice da dn.length dc, .int .i64 limit]) sz_sl_bool rfl (by repeat (first | exact List.mem_cons_self | apply List.mem_cons_of_mem)) rfl) rfl ?_
              refine JO.t (ob_call rfl (c_order_Top w0.heap.size ((ls.map LV.r).map RV.row) ((ls.map LV.k).map RV.row) dn (-1) hn2 hR2 hK2 hdn) (.sub rfl (Sub.rowsF (rps := ls.map LV.r) (by repeat (first | exact List.mem_cons_self | apply List.mem_cons_of_mem)) (by repeat (first | exact List.mem_cons_self | apply List.mem_cons_of_mem)) hcp1 rfl) (.sub rfl (Sub.rowsF (rps := ls.map LV.k) (by repeat (first | exact List.mem_cons_self | apply List.mem_cons_of_mem)) (by repeat (first | exact List.mem_cons_self | apply List.mem_cons_of_mem)) hcp2 rfl) (.sub rfl (Sub.nsl (Sub.slFactC (by repeat (first | exact List.mem_cons_self | apply List.mem_cons_of_mem)) hdc) (by repeat (first | exact List.mem_cons_self | apply List.mem_cons_of_mem))) (.one rfl .nil))))) rfl ?_
              refine JO.t (ob_move rfl) rfl ?_
              refine JO.t (ob_extract0 rfl) rfl ?_
              refine JO.t (ob_extract1 rfl) rfl ?_
              refine JO.t (ob_assign rfl) rfl ?_
              refine JO.t (ob_assign rfl) rfl ?_
              refine JO.nil ?_
              repeat (first | refine JX.next ?_ | refine JX.normal_block ?_)
              refine J.sel [2, 5, 15, 16] (.cons rfl (.cons rfl (.cons rfl (.cons rfl .nil)))) ?_
              refine J.openRows (s := 15) rfl (fun qs qa ql qc qb qo hqm hql hqc hqa => ?_)
              subst hql
              rw [hTp.1] at hqm
              refine J.know (∀ p ∈ qs, p.row.length = p.len) (fun E w hG _ => fun p hp => ((hG (RVF qs) (by repeat (first | exact List.mem_cons_self | apply List.mem_cons_of_mem))).now p hp).2.1) (fun hqn => ?_)
              have hqlen : ∀ p ∈ qs, p.len ≤ 1048576 := fun p hp => by
                rw [← hqn p hp]
                exact hlr _ (hqm ▸ List.mem_map_of_mem hp)
              have hql1 : qs.length ≤ 1048576 := by
                have h := congrArg List.length hqm
                rw [List.length_map] at h
                omega
              repeat refine J.seq ?_
              refine J.reg0 hmx (by kernel_rfl) (by kernel_rfl) ?_
              refine RT.t (ob_move rfl) ?_
              refine RT.t (ob_neq rfl rfl) ?_
              refine RT.t (ob_move rfl) ?_
              refine RT.g rfl rfl rfl (fun hg => ob_move (.inl rfl)) ?_
              refine RT.g rfl rfl rfl (fun hg => ob_move (.inl rfl)) ?_
              refine RT.g rfl rfl rfl (fun hg => ob_call (.inl rfl) (c_ref15_Same (topO rows keys dn (-1)) (topO rows keys dn (-1)) (by omega) (fun x hx => by have := hlr x hx; omega)) (.sub (.inr ⟨_, rfl, fun h => h⟩) (Sub.rowsF (rps := qs) (by repeat (first | exact List.mem_cons_self | apply List.mem_cons_of_mem)) (by repeat (first | exact List.mem_cons_self | apply List.mem_cons_of_mem)) hqc hqm) (.sub (.inr ⟨_, rfl, fun h => h⟩) (Sub.rowsF (rps := ps) (by repeat (first | exact List.mem_cons_self | apply List.mem_cons_of_mem)) (by repeat (first | exact List.mem_cons_self | apply List.mem_cons_of_mem)) hpc hpm) .nil))) ?_
              refine RT.g rfl rfl rfl (fun hg => ob_not (.inr ⟨_, rfl, fun h => h⟩)) ?_
              refine RT.t (ob_pickOr rfl rfl rfl id) ?_
              refine RT.nil ?_
              refine FinS.nil0 ?_
              repeat (first | refine JX.next ?_ | refine JX.normal_block ?_)
              refine J.sel [2, 5, 15, 162] (.cons rfl (.cons rfl (.cons rfl (.cons rfl .nil)))) ?_
              repeat refine J.seq ?_
              refine J.cond rfl (fun ht162 => ?_) (fun ht162 => ?_)
              ·
                try simp only [decide_eq_true_eq, decide_eq_false_iff_not] at ht162
                exfalso
                rw [hTp.2, topE_ok hok, (sameR_iff _ _).2 rfl] at ht162; simp at ht162
              ·
                try simp only [decide_eq_true_eq, decide_eq_false_iff_not] at ht162
                refine J.skip ?_
                repeat (first | refine JX.next ?_ | refine JX.normal_block ?_)
                refine J.toStay (qs := qs) (qa := qa) (cap := qc) (tv := ty_api_Value) (ts := ty_sl_api_Value) hE0 (by repeat (first | exact List.mem_cons_self | apply List.mem_cons_of_mem)) (fun F hF => by repeat (first | exact hF | refine List.mem_cons_of_mem _ ?_)) (by repeat (first | exact List.mem_cons_self | apply List.mem_cons_of_mem)) (by repeat (first | exact List.mem_cons_self | apply List.mem_cons_of_mem)) (fun bq hbq => ?_)
                repeat refine J.seq ?_
                refine J.plain ?_
                refine JO.t (ob_assign rfl) rfl ?_
                refine JO.nil ?_
                repeat (first | refine JX.next ?_ | refine JX.normal_block ?_)
                refine J.sel [2, 5, 15, 17] (.cons rfl (.cons rfl (.cons rfl (.cons rfl .nil)))) ?_
                repeat refine J.seq ?_
                refine J.block ?_
                repeat refine J.seq ?_
                refine J.loopF (α := Nat) (fun i => [(2, .is (.pointer (some ⟨b2, 0, none⟩))), (5, .is (.slice pa ps.length pc)), (15, .is (.slice qa qs.length qc)), (17, .is (.int .i64 (i : Nat)))]) (fun i => i ≤ qs.length) (fun i => qs.length - i) 0 [2, 5, 15, 17] (.cons rfl (.cons rfl (.cons rfl (.cons rfl .nil)))) (Nat.zero_le _) fun i hi => ?_
                repeat refine J.seq ?_
                refine J.plain ?_
                refine JO.t (ob_move rfl) rfl ?_
                refine JO.t (ob_move rfl) rfl ?_
                refine JO.t (ob_len un_sl_sl_api_Value rfl) rfl ?_
                refine JO.t (ob_lss rfl rfl) rfl ?_
                refine JO.nil ?_
                repeat (first | refine JX.next ?_ | refine JX.normal_block ?_)
                refine J.sel [2, 5, 15, 17, 166] (.cons rfl (.cons rfl (.cons rfl (.cons rfl (.cons rfl .nil))))) ?_
                repeat refine J.seq ?_
                refine J.cond rfl (fun ht166 => ?_) (fun ht166 => ?_)
                ·
                  try simp only [decide_eq_true_eq, decide_eq_false_iff_not] at ht166
                  refine J.skip ?_
                  repeat (first | refine JX.next ?_ | refine JX.normal_block ?_)
                  repeat refine J.seq ?_
                  refine J.block ?_
                  repeat refine J.seq ?_
                  refine J.plain ?_
                  refine JO.t (ob_assign rfl) rfl ?_
                  refine JO.nil ?_
                  repeat (first | refine JX.next ?_ | refine JX.normal_block ?_)
                  refine J.sel [2, 5, 15, 17, 18] (.cons rfl (.cons rfl (.cons rfl (.cons rfl (.cons rfl .nil))))) ?_
                  repeat refine J.seq ?_
                  refine J.block ?_
                  repeat refine J.seq ?_
                  refine J.loopF (α := Nat) (fun k => [(2, .is (.pointer (some ⟨b2, 0, none⟩))), (5, .is (.slice pa ps.length pc)), (15, .is (.slice qa qs.length qc)), (17, .is (.int .i64 (i : Nat))), (18, .is (.int .i64 (k : Nat)))]) (fun k => k ≤ (qs.getD i rv0).len) (fun k => (qs.getD i rv0).len - k) 0 [2, 5, 15, 17, 18] (.cons rfl (.cons rfl (.cons rfl (.cons rfl (.cons rfl .nil))))) (Nat.zero_le _) fun k hk => ?_
                  have hil : i < qs.length := by omega
                  have hpi := hqlen _ (getD_mem (d := rv0) hil)
                  refine J.outRow (bq := bq) (ts := ty_sl_api_Value) (qs := qs) (qa := qa) (by repeat (first | exact List.mem_cons_self | apply List.mem_cons_of_mem)) (by omega) hbq ?_
                  repeat refine J.seq ?_
                  refine J.plain ?_
                  refine JO.t (ob_move rfl) rfl ?_
                  refine JO.t (ob_move rfl) rfl ?_
                  refine JO.t (ob_move rfl) rfl ?_
                  refine JO.t (ob_indexAddr el_sl_sl_api_Value rfl (hqa (by omega)) rfl (by omega) (by omega)) rfl ?_
                  refine JO.t (ob_loadG1 (enc := RV.c) (sz := 1) (i := i) (j := 0) (y := qs.getD (i) rv0) (u := (qs.getD (i) rv0).v) sz_sl_api_Value rfl (by repeat (first | exact List.mem_cons_self | apply List.mem_cons_of_mem)) (hqa (by omega)) (getD_some (by omega)) (by omega) rfl) rfl ?_
                  refine JO.t (ob_len un_sl_api_Value rfl) rfl ?_
                  refine JO.t (ob_lss rfl rfl) rfl ?_
                  refine JO.nil ?_
                  repeat (first | refine JX.next ?_ | refine JX.normal_block ?_)
                  refine J.sel [2, 5, 15, 17, 18, 175] (.cons rfl (.cons rfl (.cons rfl (.cons rfl (.cons rfl (.cons rfl .nil)))))) ?_
                  repeat refine J.seq ?_
                  refine J.cond rfl (fun ht175 => ?_) (fun ht175 => ?_)
                  ·
                    try simp only [decide_eq_true_eq, decide_eq_false_iff_not] at ht175
                    refine J.skip ?_
                    repeat (first | refine JX.next ?_ | refine JX.normal_block ?_)
                    repeat refine J.seq ?_
                    refine J.block ?_
                    refine J.claimRow (qs := qs) (p := qs.getD i rv0) (tv := ty_api_Value) (ts := ty_sl_api_Value) (bq := bq) hW0 hE0 (by decide) (by repeat (first | exact List.mem_cons_self | apply List.mem_cons_of_mem)) (by repeat (first | exact List.mem_cons_self | apply List.mem_cons_of_mem)) (by repeat (first | exact List.mem_cons_self | apply List.mem_cons_of_mem)) (fun F hF => by repeat (first | exact hF | refine List.mem_cons_of_mem _ ?_)) (getD_mem hil) (by omega) rfl (fun cb cn ccs hca hcl hcc => ?_)
                    refine J.outRow (bq := bq) (ts := ty_sl_api_Value) (qs := qs) (qa := qa) (by repeat (first | exact List.mem_cons_self | apply List.mem_cons_of_mem)) (by omega) hbq ?_
                    repeat refine J.seq ?_
                    refine J.plain ?_
                    refine JO.t (ob_move rfl) rfl ?_
                    refine JO.t (ob_move rfl) rfl ?_
                    refine JO.t (ob_indexAddr el_sl_sl_api_Value rfl (hqa (by omega)) rfl (by omega) (by omega)) rfl ?_
                    refine JO.t (ob_loadG1 (enc := RV.c) (sz := 1) (i := i) (j := 0) (y := qs.getD (i) rv0) (u := (qs.getD (i) rv0).v) sz_sl_api_Value rfl (by repeat (first | exact List.mem_cons_self | apply List.mem_cons_of_mem)) (hqa (by omega)) (getD_some (by omega)) (by omega) rfl) rfl ?_
                    refine JO.t (ob_move rfl) rfl ?_
                    refine JO.t (ob_build (cs := [_, _, _]) sh_api_Value .nil rfl rfl) rfl ?_
                    refine JO.t (ob_indexAddr el_sl_api_Value rfl hca rfl (by omega) (by omega)) rfl ?_
                    refine JO.m (obm_storeF (n := 3) (cs := ccs) rfl rfl (by repeat (first | exact .here | apply Upd.there)) rfl rfl rfl (Nat.ble_eq_true_of_le (by omega)) ss_api_Value) (by rfl) ?_
                    refine JO.nil ?_
                    repeat (first | refine JX.next ?_ | refine JX.normal_block ?_)
                    refine J.sel [2, 5, 15, 17, 18] (.cons rfl (.cons rfl (.cons rfl (.cons rfl (.cons rfl .nil))))) ?_
                    repeat refine J.seq ?_
                    refine J.plain ?_
                    refine JO.t (ob_move rfl) rfl ?_
                    refine JO.t (ob_addc (cc := ((k + 1 : Nat) : Int)) rfl rfl (by omega) (by omega) (by omega)) rfl ?_
                    refine JO.t (ob_assign rfl) rfl ?_
                    refine JO.nil ?_
                    repeat refine JX.normal_block ?_
                    refine JX.roundS (k + 1) ?_ ?_ [2, 5, 15, 17, 18] ?_ ?_ ?_
                    · exact (by omega)
                    · exact (by omega)
                    · exact (.cons rfl (.cons rfl (.cons rfl (.cons rfl (.cons rfl .nil)))))
                    · repeat (first | exact .slnil | exact List.Sublist.refl _ | apply List.Sublist.cons_cons | apply List.Sublist.cons)
                    · repeat (first | exact .slnil | exact List.Sublist.refl _ | apply List.Sublist.cons_cons | apply List.Sublist.cons)
                  ·
                    try simp only [decide_eq_true_eq, decide_eq_false_iff_not] at ht175
                    repeat refine J.seq ?_
                    refine J.exit ?_
                    repeat (first | refine JX.hit ?_ | refine JX.miss rfl ?_ | refine JX.exit_pass ?_)
                    repeat (first | refine JX.next ?_ | refine JX.normal_block ?_)
                    repeat refine J.seq ?_
                    refine J.plain ?_
                    refine JO.t (ob_move rfl) rfl ?_
                    refine JO.t (ob_addc (cc := ((i + 1 : Nat) : Int)) rfl rfl (by omega) (by omega) (by omega)) rfl ?_
                    refine JO.t (ob_assign rfl) rfl ?_
                    refine JO.nil ?_
                    repeat refine JX.normal_block ?_
                    refine JX.roundS (i + 1) ?_ ?_ [2, 5, 15, 17] ?_ ?_ ?_
                    · exact (by omega)
                    · exact (by omega)
                    · exact (.cons rfl (.cons rfl (.cons rfl (.cons rfl .nil))))
                    · repeat (first | exact .slnil | exact List.Sublist.refl _ | apply List.Sublist.cons_cons | apply List.Sublist.cons)
                    · repeat (first | exact .slnil | exact List.Sublist.refl _ | apply List.Sublist.cons_cons | apply List.Sublist.cons)
                ·
                  try simp only [decide_eq_true_eq, decide_eq_false_iff_not] at ht166
                  repeat refine J.seq ?_
                  refine J.exit ?_
                  repeat (first | refine JX.hit ?_ | refine JX.miss rfl ?_ | refine JX.exit_pass ?_)
                  repeat (first | refine JX.next ?_ | refine JX.normal_block ?_)
                  repeat refine J.seq ?_
                  refine J.plain ?_
                  refine JO.t (ob_fieldAddr fo_cadastrelaw15_Ask_0 rfl) rfl ?_
                  refine JO.t (ob_ldF1 (b := b2) (cs := [.slice ra rps.length rc, .slice ka kps.length kc, .slice da dn.length dc, .int .i64 limit]) sz_sl_sl_api_Value rfl (by repeat (first | exact List.mem_cons_self | apply List.mem_cons_of_mem)) rfl) rfl ?_
                  refine JO.t (ob_fieldAddr fo_cadastrelaw15_Ask_1 rfl) rfl ?_
                  refine JO.t (ob_ldF1 (b := b2) (cs := [.slice ra rps.length rc, .slice ka kps.length kc, .slice da dn.length dc, .int .i64 limit]) sz_sl_sl_api_Value rfl (by repeat (first | exact List.mem_cons_self | apply List.mem_cons_of_mem)) rfl) rfl ?_
                  refine JO.t (ob_fieldAddr fo_cadastrelaw15_Ask_2 rfl) rfl ?_
                  refine JO.t (ob_ldF1 (b := b2) (cs := [.slice ra rps.length rc, .slice ka kps.length kc, .slice da dn.length dc, .int .i64 limit]) sz_sl_bool rfl (by repeat (first | exact List.mem_cons_self | apply List.mem_cons_of_mem)) rfl) rfl ?_
                  refine JO.t (ob_call rfl (c_order_Top 0 rows keys dn (-1) hn hR hK hdn) (.sub rfl (Sub.rowsF (rps := rps) (by repeat (first | exact List.mem_cons_self | apply List.mem_cons_of_mem)) (by repeat (first | exact List.mem_cons_self | apply List.mem_cons_of_mem)) hrc hrm) (.sub rfl (Sub.rowsF (rps := kps) (by repeat (first | exact List.mem_cons_self | apply List.mem_cons_of_mem)) (by repeat (first | exact List.mem_cons_self | apply List.mem_cons_of_mem)) hkc hkm) (.sub rfl (Sub.nsl (Sub.slFactC (by repeat (first | exact List.mem_cons_self | apply List.mem_cons_of_mem)) hdc) (by repeat (first | exact List.mem_cons_self | apply List.mem_cons_of_mem))) (.one rfl .nil))))) rfl ?_
                  refine JO.t (ob_move rfl) rfl ?_
                  refine JO.t (ob_extract0 rfl) rfl ?_
                  refine JO.t (ob_extract1 rfl) rfl ?_
                  refine JO.t (ob_assign rfl) rfl ?_
                  refine JO.t (ob_assign rfl) rfl ?_
                  refine JO.nil ?_
                  repeat (first | refine JX.next ?_ | refine JX.normal_block ?_)
                  refine J.sel [5, 16, 19] (.cons rfl (.cons rfl (.cons rfl .nil))) ?_
                  repeat refine J.seq ?_
                  refine J.reg0 hmx (by kernel_rfl) (by kernel_rfl) ?_
                  refine RT.t (ob_move rfl) ?_
                  refine RT.t (ob_eql rfl rfl) ?_
                  refine RT.t (ob_move rfl) ?_
                  refine RT.g rfl rfl rfl (fun hg => ob_move (.inl rfl)) ?_
                  refine RT.g rfl rfl rfl (fun hg => ob_move (.inl rfl)) ?_
                  refine RT.g rfl rfl rfl (fun hg => ob_call (.inl rfl) (c_ref15_Same (topO rows keys dn (-1)) (topO rows keys dn (-1)) (by omega) (fun x hx => by have := hlr x hx; omega)) (.sub (.inr ⟨_, rfl, fun h => h⟩) Sub.rowsW (.sub (.inr ⟨_, rfl, fun h => h⟩) (Sub.rowsF (rps := ps) (by repeat (first | exact List.mem_cons_self | apply List.mem_cons_of_mem)) (by repeat (first | exact List.mem_cons_self | apply List.mem_cons_of_mem)) hpc hpm) .nil))) ?_
                  refine RT.t (ob_pickAnd rfl rfl rfl id) ?_
                  refine RT.t (ob_assign rfl) ?_
                  refine RT.nil ?_
                  refine FinS.nil0 ?_
                  repeat (first | refine JX.next ?_ | refine JX.normal_block ?_)
                  refine J.sel [4] (.cons rfl .nil) ?_
                  repeat refine J.seq ?_
                  refine J.ret ?_
                  repeat (first | refine JX.ret_pass ?_ | refine JX.ret_block ?_)
                  exact JX.ret1is rfl rfl (by rw [topE_ok hok, (sameR_iff _ _).2 rfl]; rfl)
end Go.Proofs.Ytgpikmonklainaa
