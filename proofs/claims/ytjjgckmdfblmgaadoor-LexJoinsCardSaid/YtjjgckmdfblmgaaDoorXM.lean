/- Names, texts, numbers as long as they may be: what the statement does. No condition. -/
import Derived.Test.YtjjgckmdfblmgaaDoorXLL
import Derived.Test.YtjjgckmdfblmgaaDoorXG4
set_option maxRecDepth 20000
namespace Go.Proofs.YtjjgckmdfblmgaaDoor
open Go Go.Vc
theorem tm5 {n : Int} (h : 0 ≤ n ∧ n < 256) : 0 ≤ n.tmod 5 ∧ n.tmod 5 < 5 := by
  rw [Int.tmod_eq_emod_of_nonneg h.1]
  omega
theorem tm3 {n : Int} (h : 0 ≤ n ∧ n < 256) : 0 ≤ n.tmod 3 ∧ n.tmod 3 < 3 := by
  rw [Int.tmod_eq_emod_of_nonneg h.1]
  omega
theorem c_law09_LexLimits (n c : Int) (hn : 0 ≤ n ∧ n < 256) : CallF Tryd.prog f_law09_LexLimits [GF] [.is (.int .u8 n), .is (.int .u8 c)] (.is (.bool true)) :=
CallF.of (fn := Tryd.f4) Tryd.func4 (n := 136) rfl rfl rfl (fun _ _ => by kernel_rfl) fun E W => by
  obtain ⟨k, hk⟩ : ∃ k : Nat, (k : Int) = 30 + n.tmod 5 := ⟨(30 + n.tmod 5).toNat, by have := tm5 hn; omega⟩
  obtain ⟨m, hm⟩ : ∃ m : Nat, (m : Int) = 2047 + n.tmod 3 := ⟨(2047 + n.tmod 3).toNat, by have := tm3 hn; omega⟩
  have h5 := tm5 hn
  have h3 := tm3 hn
  repeat refine J.seq ?_
  refine J.plain ?_
  refine JO.t (ob_assign rfl) rfl ?_
  refine JO.nil ?_
  repeat (first | refine JX.next ?_ | refine JX.normal_block ?_)
  refine J.sel [0] (.cons rfl .nil) ?_
  repeat refine J.seq ?_
  refine J.plain ?_
  refine JO.t (ob_callF rfl (c_law09_awake) (by simp) .nil) rfl ?_
  refine JO.t (ob_not rfl) rfl ?_
  refine JO.nil ?_
  repeat (first | refine JX.next ?_ | refine JX.normal_block ?_)
  refine J.sel [0, 25] (.cons rfl (.cons rfl .nil)) ?_
  repeat refine J.seq ?_
  refine J.cond rfl (fun ht25 => ?_) (fun ht25 => ?_)
  ·
    try simp only [decide_eq_true_eq, decide_eq_false_iff_not] at ht25
    repeat refine J.seq ?_
    refine J.plain ?_
    refine JO.t (ob_assign rfl) rfl ?_
    refine JO.nil ?_
    repeat (first | refine JX.next ?_ | refine JX.normal_block ?_)
    refine J.sel [4] (.cons rfl .nil) ?_
    repeat refine J.seq ?_
    refine J.ret ?_
    repeat (first | refine JX.ret_pass ?_ | refine JX.ret_block ?_)
    exact JX.ret1is rfl rfl (by simp at ht25)
  ·
    try simp only [decide_eq_true_eq, decide_eq_false_iff_not] at ht25
    refine J.skip ?_
    repeat (first | refine JX.next ?_ | refine JX.normal_block ?_)
    repeat refine J.seq ?_
    refine J.plain ?_
    refine JO.t (ob_move rfl) rfl ?_
    refine JO.t (ob_rem rfl rfl (by first | decide | (simp at hg; omega) | simp_all)) rfl ?_
    refine JO.t (ob_convII ⟨_, un_uint8⟩ un_int rfl) rfl ?_
    refine JO.t (ob_addc (cc := (k : Int)) rfl rfl (by rw [wrap64_eq (by omega) (by omega)]; omega) (by omega) (by omega)) rfl ?_
    refine JO.t (ob_assign rfl) rfl ?_
    refine JO.nil ?_
    repeat (first | refine JX.next ?_ | refine JX.normal_block ?_)
    refine J.sel [0, 5] (.cons rfl (.cons rfl .nil)) ?_
    repeat refine J.seq ?_
    refine J.plain ?_
    refine JO.t (ob_assign rfl) rfl ?_
    refine JO.nil ?_
    repeat (first | refine JX.next ?_ | refine JX.normal_block ?_)
    refine J.sel [0, 5, 6] (.cons rfl (.cons rfl (.cons rfl .nil))) ?_
    repeat refine J.seq ?_
    refine J.plain ?_
    refine JO.t (ob_assign rfl) rfl ?_
    refine JO.nil ?_
    repeat (first | refine JX.next ?_ | refine JX.normal_block ?_)
    refine J.sel [0, 5, 6, 7] (.cons rfl (.cons rfl (.cons rfl (.cons rfl .nil)))) ?_
    repeat refine J.seq ?_
    refine J.plain ?_
    refine JO.t (ob_assign rfl) rfl ?_
    refine JO.nil ?_
    repeat (first | refine JX.next ?_ | refine JX.normal_block ?_)
    refine J.sel [0, 5, 6, 7, 8] (.cons rfl (.cons rfl (.cons rfl (.cons rfl (.cons rfl .nil))))) ?_
    repeat refine J.seq ?_
    refine J.block ?_
    repeat refine J.seq ?_
    refine J.loopF (α := Nat) (fun i => [(0, .is (.int .u8 n)), (5, .is (.int .i64 (k : Nat))), (6, .is (.string (zs i))), (7, .is (.string (ys 0))), (8, .is (.int .i64 (i : Nat)))]) (fun i => i ≤ k) (fun i => k - i) 0 [0, 5, 6, 7, 8] (.cons rfl (.cons rfl (.cons rfl (.cons rfl (.cons rfl .nil))))) (Nat.zero_le _) fun i hi => ?_
    repeat refine J.seq ?_
    refine J.plain ?_
    refine JO.t (ob_move rfl) rfl ?_
    refine JO.t (ob_move rfl) rfl ?_
    refine JO.t (ob_lss rfl rfl) rfl ?_
    refine JO.nil ?_
    repeat (first | refine JX.next ?_ | refine JX.normal_block ?_)
    refine J.sel [0, 5, 6, 7, 8, 32] (.cons rfl (.cons rfl (.cons rfl (.cons rfl (.cons rfl (.cons rfl .nil)))))) ?_
    repeat refine J.seq ?_
    refine J.cond rfl (fun ht32 => ?_) (fun ht32 => ?_)
    ·
      try simp only [decide_eq_true_eq, decide_eq_false_iff_not] at ht32
      refine J.skip ?_
      repeat (first | refine JX.next ?_ | refine JX.normal_block ?_)
      repeat refine J.seq ?_
      refine J.block ?_
      repeat refine J.seq ?_
      refine J.plain ?_
      refine JO.t (ob_move rfl) rfl ?_
      refine JO.t (ob_saddv (u := zs (i + 1)) rfl rfl (by show (zs i).size + 1 ≤ 9223372036854775807; rw [zs_size]; omega) (zs_next i)) rfl ?_
      refine JO.t (ob_assign rfl) rfl ?_
      refine JO.nil ?_
      repeat (first | refine JX.next ?_ | refine JX.normal_block ?_)
      refine J.sel [0, 5, 6, 7, 8] (.cons rfl (.cons rfl (.cons rfl (.cons rfl (.cons rfl .nil))))) ?_
      repeat refine J.seq ?_
      refine J.plain ?_
      refine JO.t (ob_move rfl) rfl ?_
      refine JO.t (ob_addc (cc := ((i + 1 : Nat) : Int)) rfl rfl (by omega) (by omega) (by omega)) rfl ?_
      refine JO.t (ob_assign rfl) rfl ?_
      refine JO.nil ?_
      repeat refine JX.normal_block ?_
      refine JX.roundS (i + 1) ?_ ?_ [0, 5, 6, 7, 8] ?_ ?_ ?_
      · exact (by omega)
      · exact (by omega)
      · exact (.cons rfl (.cons rfl (.cons rfl (.cons rfl (.cons rfl .nil)))))
      · repeat (first | exact .slnil | apply List.Sublist.cons_cons | apply List.Sublist.cons)
      · repeat (first | exact .slnil | apply List.Sublist.cons_cons | apply List.Sublist.cons)
    ·
      try simp only [decide_eq_true_eq, decide_eq_false_iff_not] at ht32
      repeat refine J.seq ?_
      refine J.exit ?_
      repeat (first | refine JX.hit ?_ | refine JX.miss rfl ?_ | refine JX.exit_pass ?_)
      repeat (first | refine JX.next ?_ | refine JX.normal_block ?_)
      have hki : k = i := by omega
      subst hki
      repeat refine J.seq ?_
      refine J.plain ?_
      refine JO.t (ob_assign rfl) rfl ?_
      refine JO.nil ?_
      repeat (first | refine JX.next ?_ | refine JX.normal_block ?_)
      refine J.sel [0, 5, 6, 7, 9] (.cons rfl (.cons rfl (.cons rfl (.cons rfl (.cons rfl .nil))))) ?_
      repeat refine J.seq ?_
      refine J.block ?_
      repeat refine J.seq ?_
      refine J.loopF (α := Nat) (fun i => [(0, .is (.int .u8 n)), (5, .is (.int .i64 (k : Nat))), (6, .is (.string (zs k))), (7, .is (.string (ys i))), (9, .is (.int .i64 (i : Nat)))]) (fun i => i ≤ k + 32) (fun i => k + 32 - i) 0 [0, 5, 6, 7, 9] (.cons rfl (.cons rfl (.cons rfl (.cons rfl (.cons rfl .nil))))) (Nat.zero_le _) fun i hi => ?_
      repeat refine J.seq ?_
      refine J.plain ?_
      refine JO.t (ob_move rfl) rfl ?_
      refine JO.t (ob_move rfl) rfl ?_
      refine JO.t (ob_addc (cc := ((k + 32 : Nat) : Int)) rfl rfl (by omega) (by omega) (by omega)) rfl ?_
      refine JO.t (ob_lss rfl rfl) rfl ?_
      refine JO.nil ?_
      repeat (first | refine JX.next ?_ | refine JX.normal_block ?_)
      refine J.sel [0, 5, 6, 7, 9, 40] (.cons rfl (.cons rfl (.cons rfl (.cons rfl (.cons rfl (.cons rfl .nil)))))) ?_
      repeat refine J.seq ?_
      refine J.cond rfl (fun ht40 => ?_) (fun ht40 => ?_)
      ·
        try simp only [decide_eq_true_eq, decide_eq_false_iff_not] at ht40
        refine J.skip ?_
        repeat (first | refine JX.next ?_ | refine JX.normal_block ?_)
        repeat refine J.seq ?_
        refine J.block ?_
        repeat refine J.seq ?_
        refine J.plain ?_
        refine JO.t (ob_move rfl) rfl ?_
        refine JO.t (ob_saddv (u := ys (i + 1)) rfl rfl (by show (ys i).size + 1 ≤ 9223372036854775807; rw [ys_size]; omega) (ys_next i)) rfl ?_
        refine JO.t (ob_assign rfl) rfl ?_
        refine JO.nil ?_
        repeat (first | refine JX.next ?_ | refine JX.normal_block ?_)
        refine J.sel [0, 5, 6, 7, 9] (.cons rfl (.cons rfl (.cons rfl (.cons rfl (.cons rfl .nil))))) ?_
        repeat refine J.seq ?_
        refine J.plain ?_
        refine JO.t (ob_move rfl) rfl ?_
        refine JO.t (ob_addc (cc := ((i + 1 : Nat) : Int)) rfl rfl (by omega) (by omega) (by omega)) rfl ?_
        refine JO.t (ob_assign rfl) rfl ?_
        refine JO.nil ?_
        repeat refine JX.normal_block ?_
        refine JX.roundS (i + 1) ?_ ?_ [0, 5, 6, 7, 9] ?_ ?_ ?_
        · exact (by omega)
        · exact (by omega)
        · exact (.cons rfl (.cons rfl (.cons rfl (.cons rfl (.cons rfl .nil)))))
        · repeat (first | exact .slnil | apply List.Sublist.cons_cons | apply List.Sublist.cons)
        · repeat (first | exact .slnil | apply List.Sublist.cons_cons | apply List.Sublist.cons)
      ·
        try simp only [decide_eq_true_eq, decide_eq_false_iff_not] at ht40
        repeat refine J.seq ?_
        refine J.exit ?_
        repeat (first | refine JX.hit ?_ | refine JX.miss rfl ?_ | refine JX.exit_pass ?_)
        repeat (first | refine JX.next ?_ | refine JX.normal_block ?_)
        have hik : i = k + 32 := by omega
        subst hik
        repeat refine J.seq ?_
        refine J.plain ?_
        refine JO.t (ob_move rfl) rfl ?_
        refine JO.t (ob_callF rfl (c_lex_All (zs k)) (by simp) (.one rfl .nil)) rfl ?_
        refine JO.t (ob_move rfl) rfl ?_
        refine JO.t (ob_extract0 rfl) rfl ?_
        refine JO.t (ob_extract1 rfl) rfl ?_
        refine JO.t (ob_assign rfl) rfl ?_
        refine JO.t (ob_assign rfl) rfl ?_
        refine JO.nil ?_
        repeat (first | refine JX.next ?_ | refine JX.normal_block ?_)
        refine J.sel [0, 5, 7, 11] (.cons rfl (.cons rfl (.cons rfl (.cons rfl .nil)))) ?_
        repeat refine J.seq ?_
        refine J.plain ?_
        refine JO.t (ob_move rfl) rfl ?_
        refine JO.t (ob_saddv (u := yq (k + 32)) rfl rfl (by show (ys (k + 32)).size + 1 ≤ 9223372036854775807; rw [ys_size]; omega) (yq_is (k + 32))) rfl ?_
        refine JO.t (ob_callF rfl (c_lex_All (yq (k + 32))) (by simp) (.one rfl .nil)) rfl ?_
        refine JO.t (ob_move rfl) rfl ?_
        refine JO.t (ob_extract0 rfl) rfl ?_
        refine JO.t (ob_extract1 rfl) rfl ?_
        refine JO.t (ob_assign rfl) rfl ?_
        refine JO.t (ob_assign rfl) rfl ?_
        refine JO.nil ?_
        repeat (first | refine JX.next ?_ | refine JX.normal_block ?_)
        refine J.sel [0, 5, 11, 13] (.cons rfl (.cons rfl (.cons rfl (.cons rfl .nil)))) ?_
        repeat refine J.seq ?_
        refine J.reg0 hmx (by kernel_rfl) (by kernel_rfl) ?_
        refine RT.t (ob_move rfl) ?_
        refine RT.t (ob_eql rfl rfl) ?_
        refine RT.t (ob_move rfl) ?_
        refine RT.t (ob_leq rfl rfl) ?_
        refine RT.t (ob_bneq un_bool rfl rfl) ?_
        refine RT.t (ob_move rfl) ?_
        refine RT.g rfl rfl rfl (fun hg => ob_move (.inl rfl)) ?_
        refine RT.g rfl rfl rfl (fun hg => ob_eql (.inr ⟨_, rfl, fun h => h⟩) (.inl rfl)) ?_
        refine RT.g rfl rfl rfl (fun hg => ob_move (.inl rfl)) ?_
        refine RT.g rfl rfl rfl (fun hg => ob_addc (cc := ((k + 32 : Nat) : Int)) (.inr ⟨_, rfl, fun h => h⟩) (.inl rfl) (by omega) (by omega) (by omega)) ?_
        refine RT.g rfl rfl rfl (fun hg => ob_leq (.inr ⟨_, rfl, fun h => h⟩) (.inl rfl)) ?_
        refine RT.g rfl rfl rfl (fun hg => ob_bneq un_bool (.inr ⟨_, rfl, fun h => h⟩) (.inr ⟨_, rfl, fun h => h⟩)) ?_
        refine RT.t (ob_pickOr rfl rfl rfl id) ?_
        refine RT.nil ?_
        refine FinS.nil0 ?_
        repeat (first | refine JX.next ?_ | refine JX.normal_block ?_)
        refine J.sel [0, 68] (.cons rfl (.cons rfl .nil)) ?_
        repeat refine J.seq ?_
        refine J.cond rfl (fun ht68 => ?_) (fun ht68 => ?_)
        ·
          try simp only [decide_eq_true_eq, decide_eq_false_iff_not] at ht68
          repeat refine J.seq ?_
          refine J.plain ?_
          refine JO.t (ob_assign rfl) rfl ?_
          refine JO.nil ?_
          repeat (first | refine JX.next ?_ | refine JX.normal_block ?_)
          refine J.sel [4] (.cons rfl .nil) ?_
          repeat refine J.seq ?_
          refine J.ret ?_
          repeat (first | refine JX.ret_pass ?_ | refine JX.ret_block ?_)
          exact JX.ret1is rfl rfl (by rw [lim_name k (by omega) (by omega), lim_text k (by omega) (by omega)] at ht68; simp at ht68)
        ·
          try simp only [decide_eq_true_eq, decide_eq_false_iff_not] at ht68
          refine J.skip ?_
          repeat (first | refine JX.next ?_ | refine JX.normal_block ?_)
          repeat refine J.seq ?_
          refine J.plain ?_
          refine JO.t (ob_move rfl) rfl ?_
          refine JO.t (ob_rem rfl rfl (by first | decide | (simp at hg; omega) | simp_all)) rfl ?_
          refine JO.t (ob_convII ⟨_, un_uint8⟩ un_int rfl) rfl ?_
          refine JO.t (ob_addc (cc := (m : Int)) rfl rfl (by rw [wrap64_eq (by omega) (by omega)]; omega) (by omega) (by omega)) rfl ?_
          refine JO.mkSl1 (z := .int .u8 0) (bytes := 1) (n := m) un_sl_uint8 (by kernel_rfl) rfl rfl rfl rfl rfl (by omega) (by omega) rfl (fun b73 => ?_)
          refine JO.t (ob_assign rfl) rfl ?_
          refine JO.nil ?_
          repeat (first | refine JX.next ?_ | refine JX.normal_block ?_)
          refine J.sel [14] (.cons rfl .nil) ?_
          rw [← part_0 m]
          repeat refine J.seq ?_
          refine J.plain ?_
          refine JO.t (ob_assign rfl) rfl ?_
          refine JO.nil ?_
          repeat (first | refine JX.next ?_ | refine JX.normal_block ?_)
          refine J.sel [14, 15] (.cons rfl (.cons rfl .nil)) ?_
          repeat refine J.seq ?_
          refine J.block ?_
          repeat refine J.seq ?_
          refine J.loopG (α := Nat) (fun i => [(14, .is (.slice (some ⟨b73, 0, none⟩) m m)), (15, .is (.int .i64 (i : Nat)))]) (fun i => ⟨b73, ty_uint8, .is (.agg (part i m).toArray)⟩ :: []) (fun i => fun _ => True) (fun i => i ≤ m) (fun i => m - i) 0 [14, 15] (.cons rfl (.cons rfl .nil)) rfl (fun _ => trivial) (Nat.zero_le _) fun i hi => ?_
          try dsimp only
          try dsimp only at hi
          repeat refine J.seq ?_
          refine J.plain ?_
          refine JO.t (ob_move rfl) rfl ?_
          refine JO.t (ob_move rfl) rfl ?_
          refine JO.t (ob_len un_sl_uint8 rfl) rfl ?_
          refine JO.t (ob_lss rfl rfl) rfl ?_
          refine JO.nil ?_
          repeat (first | refine JX.next ?_ | refine JX.normal_block ?_)
          refine J.sel [14, 15, 77] (.cons rfl (.cons rfl (.cons rfl .nil))) ?_
          repeat refine J.seq ?_
          refine J.cond rfl (fun ht77 => ?_) (fun ht77 => ?_)
          ·
            try simp only [decide_eq_true_eq, decide_eq_false_iff_not] at ht77
            refine J.skip ?_
            repeat (first | refine JX.next ?_ | refine JX.normal_block ?_)
            repeat refine J.seq ?_
            refine J.block ?_
            repeat refine J.seq ?_
            refine J.plain ?_
            refine JO.t (ob_move rfl) rfl ?_
            refine JO.t (ob_move rfl) rfl ?_
            refine JO.t (ob_indexAddr el_sl_uint8 rfl rfl rfl (by omega) (by omega)) rfl ?_
            refine JO.m (obm_storeF (cs := part i m) (cs' := part (i + 1) m) (n := 1) rfl rfl (by repeat (first | exact .here | apply Upd.there)) (show splice (part i m) (0 + ((i : Nat) : Int).toNat * 1) [.int .u8 32] = part (i + 1) m by rw [show 0 + ((i : Nat) : Int).toNat * 1 = i by omega]; exact part_next (by omega)) rfl rfl (by rw [part_len (by omega)]; exact Nat.ble_eq_true_of_le (by omega)) ss_uint8) (by rfl) ?_
            refine JO.nil ?_
            repeat (first | refine JX.next ?_ | refine JX.normal_block ?_)
            refine J.sel [14, 15] (.cons rfl (.cons rfl .nil)) ?_
            repeat refine J.seq ?_
            refine J.plain ?_
            refine JO.t (ob_move rfl) rfl ?_
            refine JO.t (ob_addc (cc := ((i + 1 : Nat) : Int)) rfl rfl (by omega) (by omega) (by omega)) rfl ?_
            refine JO.t (ob_assign rfl) rfl ?_
            refine JO.nil ?_
            repeat refine JX.normal_block ?_
            refine JX.roundG (x := i) (i + 1) ?_ ?_ [14, 15] ?_ ?_ ?_ ?_
            · exact (by omega)
            · exact (by omega)
            · exact (.cons rfl (.cons rfl .nil))
            · repeat (first | exact .all | exact .nil | refine Has.own (by repeat (first | exact .here | apply Tl.past | apply Tl.there)) ?_ | refine Has.cons (by repeat (first | exact .here | apply Pk.past | apply Pk.there)) ?_)
            · exact fun G hG => by repeat (first | exact hG | refine List.mem_cons_of_mem _ ?_)
            · exact fun _ _ _ => fun _ _ => trivial
          ·
            try simp only [decide_eq_true_eq, decide_eq_false_iff_not] at ht77
            repeat refine J.seq ?_
            refine J.exit ?_
            repeat (first | refine JX.hit ?_ | refine JX.miss rfl ?_ | refine JX.exit_pass ?_)
            repeat (first | refine JX.next ?_ | refine JX.normal_block ?_)
            have him : m = i := by omega
            subst him
            refine J.freeze (b := b73) (fun _ h => h) rfl rfl ?_
            refine J.fact (RowG bC 1 (List.replicate m (32 : UInt8)) (some ⟨b73, 0, none⟩) m) (fun E w hG _ => fun w1 hk => row_own bC_len (by simp) (by rw [← part_all, Nat.mul_one]; exact List.take_of_length_le (by rw [part_len (Nat.le_refl _)]; exact Nat.le_refl _)) (hG _ List.mem_cons_self w1 hk)) ?_
            repeat refine J.seq ?_
            refine J.plain ?_
            refine JO.t (ob_move rfl) rfl ?_
            refine JO.t (ob_str un_sl_uint8 un_uint8 un_string rfl (by repeat (first | exact List.mem_cons_self | apply List.mem_cons_of_mem))) rfl ?_
            refine JO.t (ob_callF rfl (c_lex_All (bl (List.replicate m 32))) (by simp) (.one rfl .nil)) rfl ?_
            refine JO.t (ob_move rfl) rfl ?_
            refine JO.t (ob_extract0 rfl) rfl ?_
            refine JO.t (ob_extract1 rfl) rfl ?_
            refine JO.t (ob_assign rfl) rfl ?_
            refine JO.t (ob_assign rfl) rfl ?_
            refine JO.nil ?_
            repeat (first | refine JX.next ?_ | refine JX.normal_block ?_)
            refine J.sel [14, 16, 17] (.cons rfl (.cons rfl (.cons rfl .nil))) ?_
            repeat refine J.seq ?_
            refine J.plain ?_
            refine JO.t (ob_callF rfl (c_n1) (by simp) (.one rfl .nil)) rfl ?_
            refine JO.t (ob_move rfl) rfl ?_
            refine JO.t (ob_extract0 rfl) rfl ?_
            refine JO.t (ob_extract1 rfl) rfl ?_
            refine JO.t (ob_assign rfl) rfl ?_
            refine JO.t (ob_assign rfl) rfl ?_
            refine JO.nil ?_
            repeat (first | refine JX.next ?_ | refine JX.normal_block ?_)
            refine J.sel [14, 16, 17, 18, 19] (.cons rfl (.cons rfl (.cons rfl (.cons rfl (.cons rfl .nil))))) ?_
            repeat refine J.seq ?_
            refine J.plain ?_
            refine JO.t (ob_callF rfl (c_n2) (by simp) (.one rfl .nil)) rfl ?_
            refine JO.t (ob_move rfl) rfl ?_
            refine JO.t (ob_extract0 rfl) rfl ?_
            refine JO.t (ob_extract1 rfl) rfl ?_
            refine JO.t (ob_assign rfl) rfl ?_
            refine JO.t (ob_assign rfl) rfl ?_
            refine JO.nil ?_
            repeat (first | refine JX.next ?_ | refine JX.normal_block ?_)
            refine J.sel [14, 16, 17, 18, 19, 21] (.cons rfl (.cons rfl (.cons rfl (.cons rfl (.cons rfl (.cons rfl .nil)))))) ?_
            repeat refine J.seq ?_
            refine J.plain ?_
            refine JO.t (ob_callF rfl (c_n3) (by simp) (.one rfl .nil)) rfl ?_
            refine JO.t (ob_move rfl) rfl ?_
            refine JO.t (ob_extract0 rfl) rfl ?_
            refine JO.t (ob_extract1 rfl) rfl ?_
            refine JO.t (ob_assign rfl) rfl ?_
            refine JO.t (ob_assign rfl) rfl ?_
            refine JO.nil ?_
            repeat (first | refine JX.next ?_ | refine JX.normal_block ?_)
            refine J.sel [14, 16, 17, 18, 19, 21, 23] (.cons rfl (.cons rfl (.cons rfl (.cons rfl (.cons rfl (.cons rfl (.cons rfl .nil))))))) ?_
            refine J.openSl (s := 16) rfl (fun la ll lc lb lo hll hla => ?_)
            subst hll
            refine J.openSl (s := 18) rfl (fun a len cap b o hlen ha => ?_)
            subst hlen
            repeat refine J.seq ?_
            refine J.reg0 hmx (by kernel_rfl) (by kernel_rfl) ?_
            refine RT.t (ob_move rfl) ?_
            refine RT.t (ob_eql rfl rfl) ?_
            refine RT.t (ob_move rfl) ?_
            refine RT.t (ob_len un_sl_uint8 rfl) ?_
            refine RT.t (ob_leq rfl rfl) ?_
            refine RT.t (ob_beql un_bool rfl rfl) ?_
            refine RT.t (ob_move rfl) ?_
            refine RT.g rfl rfl rfl (fun hg => ob_move (.inl rfl)) ?_
            refine RT.g rfl rfl rfl (fun hg => ob_len un_sl_api_Token (.inr ⟨_, rfl, fun h => h⟩)) ?_
            refine RT.g rfl rfl rfl (fun hg => ob_eql (.inr ⟨_, rfl, fun h => h⟩) (.inl rfl)) ?_
            refine RT.t (ob_pickAnd rfl rfl rfl id) ?_
            refine RT.t (ob_move rfl) ?_
            refine RT.g rfl rfl rfl (fun hg => ob_move (.inl rfl)) ?_
            refine RT.g rfl rfl rfl (fun hg => ob_eql (.inr ⟨_, rfl, fun h => h⟩) (.inl rfl)) ?_
            refine RT.t (ob_pickAnd rfl rfl rfl id) ?_
            refine RT.t (ob_move rfl) ?_
            refine RT.g rfl rfl rfl (fun hg => ob_move (.inl rfl)) ?_
            refine RT.g rfl rfl rfl (fun hg => ob_len un_sl_api_Token (.inr ⟨_, rfl, fun h => h⟩)) ?_
            refine RT.g rfl rfl rfl (fun hg => ob_eql (.inr ⟨_, rfl, fun h => h⟩) (.inl rfl)) ?_
            refine RT.t (ob_pickAnd rfl rfl rfl id) ?_
            refine RT.t (ob_move rfl) ?_
            refine RT.g rfl rfl rfl (fun hg => ob_move (.inl rfl)) ?_
            refine RT.g rfl rfl rfl (fun hg => ob_indexAddr el_sl_api_Token (.inr ⟨_, rfl, fun h => h⟩) (ha (by decide)) (.inl rfl) (by omega) (by decide)) ?_
            refine RT.g rfl rfl rfl (fun hg => ob_fieldAddr fo_api_Token_2 (.inr ⟨_, rfl, fun h => h⟩)) ?_
            refine RT.g rfl rfl rfl (fun hg => ob_loadG1 (enc := T3.cells) (sz := 3) (len := n1T.length) (i := 0) (j := 2) (y := n1T.getD 0 t3D) sz_int64 (.inr ⟨_, rfl, fun h => h⟩) (by repeat (first | exact List.mem_cons_self | apply List.mem_cons_of_mem)) (ha (by decide)) (t3_get (by decide)) (by rfl) rfl) ?_
            refine RT.g rfl rfl rfl (fun hg => ob_eql (.inr ⟨_, rfl, fun h => h⟩) (.inl rfl)) ?_
            refine RT.t (ob_pickAnd rfl rfl rfl id) ?_
            refine RT.t (ob_move rfl) ?_
            refine RT.g rfl rfl rfl (fun hg => ob_move (.inl rfl)) ?_
            refine RT.g rfl rfl rfl (fun hg => ob_eql (.inr ⟨_, rfl, fun h => h⟩) (.inl rfl)) ?_
            refine RT.t (ob_pickAnd rfl rfl rfl id) ?_
            refine RT.t (ob_move rfl) ?_
            refine RT.g rfl rfl rfl (fun hg => ob_move (.inl rfl)) ?_
            refine RT.g rfl rfl rfl (fun hg => ob_eql (.inr ⟨_, rfl, fun h => h⟩) (.inl rfl)) ?_
            refine RT.t (ob_pickAnd rfl rfl rfl id) ?_
            refine RT.t (ob_assign rfl) ?_
            refine RT.nil ?_
            refine FinS.nil0 ?_
            repeat (first | refine JX.next ?_ | refine JX.normal_block ?_)
            refine J.sel [4] (.cons rfl .nil) ?_
            repeat refine J.seq ?_
            refine J.ret ?_
            repeat (first | refine JX.ret_pass ?_ | refine JX.ret_block ?_)
            exact JX.ret1is rfl rfl (by simp only [bl_list]; rw [lim_space]; exact congrArg Value.bool (lim_last m _ rfl))
end Go.Proofs.YtjjgckmdfblmgaaDoor
