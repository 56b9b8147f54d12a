/- value: keys read; literals. No condition. -/
import Derived.Test.YtlccnpmhmdoapaaDoorXC
import Derived.Test.YtlccnpmhmdoapaaDoorXRD
import Derived.Test.YtlccnpmhmdoapaaDoorXVD
import Derived.Test.YtlccnpmhmdoapaaDoorXG4
set_option maxRecDepth 20000
namespace Go.Proofs.YtlccnpmhmdoapaaDoor
open Go Go.Vc
open Go.Vl
theorem and_split2 {a b : Bool} (h : (a && b) = true) : a = true ∧ b = true := by simpa using h
theorem unb_eq (l : List UInt8) (h : l.length ≤ 8) : IntKind.i64.wrap (IntKind.u64.wrap ((BitVec.ofInt 64 ((numB l true : Nat) : Int) ^^^ BitVec.ofInt 64 9223372036854775808).toNat : Int)) = unbI (leV l.reverse) := by
  have hu := leV_lt l.reverse
  rw [List.length_reverse] at hu
  have h8 : 256 ^ l.length ≤ 256 ^ 8 := Nat.pow_le_pow_right (by decide) h
  rw [p256] at h8
  have := xor64 (a := leV l.reverse) (b := 9223372036854775808) (by show _ < 18446744073709551616; omega) (by decide)
  show IntKind.i64.wrap (IntKind.u64.wrap ((BitVec.ofInt 64 ((leV l.reverse : Nat) : Int) ^^^ BitVec.ofInt 64 ((9223372036854775808 : Nat) : Int)).toNat : Int)) = _
  rw [this]
  rfl
theorem key_bytes (v : V3) (l : List UInt8) : (((keyR v).2 != 0) || !(seq (bl (keyR v).1) (bl l))) = !(okV v && (keyL v == l)) := by
  unfold keyR
  cases h : okV v
  · rfl
  · rw [if_pos rfl, seq_lists, bl_list, bl_list]
    rfl
theorem fk_yes {v : V3} {l : List UInt8} (h : (((keyR v).2 != 0) || !(seq (bl (keyR v).1) (bl l))) = true) : fkW v l = (v3D, 6) := by
  rw [key_bytes] at h
  unfold fkW
  rw [if_neg (by intro h2; rw [h2] at h; cases h)]
theorem fk_no {v : V3} {l : List UInt8} (h : (((keyR v).2 != 0) || !(seq (bl (keyR v).1) (bl l))) = false) : fkW v l = (v, 0) := by
  rw [key_bytes] at h
  unfold fkW
  rw [if_pos (by simpa using h)]
theorem k0_pos {l : List UInt8} (h : (0 : Int) < l.length) : ((k0 l : Nat) : Int) = (l.getD 0 0).toNat := by unfold k0; rw [if_pos (decide_eq_true h)]
theorem k0_zero {l : List UInt8} (h : ¬ (0 : Int) < l.length) : k0 l = 0 := by unfold k0; rw [if_neg (by rw [decide_eq_false h]; simp)]
theorem c_value_FromKey (l : List UInt8) (hl : l.length ≤ 4294967000) : CallF Tryd.prog f_value_FromKey [GF] [.rep (SlC bC 1 l)] (.tup2 (.is (.agg #[.int .i64 (fkW (candA l) l).1.k, .int .i64 (fkW (candA l) l).1.n, .string (fkW (candA l) l).1.s])) (.is (.int .i64 (fkW (candA l) l).2))) :=
CallF.of (fn := Tryd.f21) Tryd.func21 (n := 78) rfl rfl rfl (fun _ _ => by kernel_rfl) fun E W => by
  refine J.openSlC (s := 0) rfl (fun a len cap b o hlen ha hlc => ?_)
  subst hlen
  have hk0 : k0 l < 256 := by unfold k0; split; exact UInt8.toNat_lt _; decide
  repeat refine J.seq ?_
  refine J.plain ?_
  refine JO.alloc zo_api_Value rfl fun b2 => ?_
  refine JO.t (ob_assign rfl) rfl ?_
  refine JO.nil ?_
  repeat (first | refine JX.next ?_ | refine JX.normal_block ?_)
  refine J.sel [0, 2] (.cons rfl (.cons rfl .nil)) ?_
  repeat refine J.seq ?_
  refine J.plain ?_
  refine JO.t (ob_build (cs := [_, _, _]) sh_api_Value .nil rfl rfl) rfl ?_
  refine JO.alloc zo_api_Value rfl fun b4 => ?_
  refine JO.m (obm_store rfl rfl (by repeat (first | exact .here | apply Upd.there)) (by first | exact cnt_is rfl rfl | exact cnt_ex) (by first | exact cnt_is rfl rfl | exact cnt_ex | exact cnt_aggO) ss_api_Value) (by rfl) ?_
  refine JO.nil ?_
  repeat (first | refine JX.next ?_ | refine JX.normal_block ?_)
  refine J.sel [0, 2, 4] (.cons rfl (.cons rfl (.cons rfl .nil))) ?_
  repeat refine J.seq ?_
  refine J.plain ?_
  refine JO.t (ob_move rfl) rfl ?_
  refine JO.t (ob_len un_sl_uint8 rfl) rfl ?_
  refine JO.t (ob_gtr rfl rfl) rfl ?_
  refine JO.nil ?_
  repeat (first | refine JX.next ?_ | refine JX.normal_block ?_)
  refine J.sel [0, 2, 4, 10] (.cons rfl (.cons rfl (.cons rfl (.cons rfl .nil)))) ?_
  repeat refine J.seq ?_
  refine J.cond rfl (fun ht10 => ?_) (fun ht10 => ?_)
  ·
    try simp only [decide_eq_true_eq, decide_eq_false_iff_not] at ht10
    repeat refine J.seq ?_
    refine J.plain ?_
    refine JO.t (ob_move rfl) rfl ?_
    refine JO.t (ob_indexAddr el_sl_uint8 rfl (ha (by omega)) rfl (by omega) (by omega)) rfl ?_
    refine JO.t (ob_loadG1 (enc := bC) (sz := 1) (len := l.length) (i := 0) (j := 0) (y := l.getD 0 0) sz_uint8 rfl (by repeat (first | exact List.mem_cons_self | apply List.mem_cons_of_mem)) (ha (by omega)) (u8_get (by omega)) (by rfl) rfl) rfl ?_
    refine JO.t (ob_convIIe (cc := ((k0 l : Nat) : Int)) ⟨_, un_uint8⟩ un_int rfl (by rw [k0_pos ht10]; exact wrap64_eq (by omega) (by have := UInt8.toNat_lt (l.getD 0 0); omega))) rfl ?_
    refine JO.t (ob_fieldAddr fo_api_Value_0 rfl) rfl ?_
    refine JO.m (obm_storeF (cs' := [_, _, _]) rfl rfl (by repeat (first | exact .here | apply Upd.there)) rfl rfl rfl rfl ss_int) (by rfl) ?_
    refine JO.nil ?_
    repeat (first | refine JX.next ?_ | refine JX.normal_block ?_)
    refine J.sel [0, 2, 4] (.cons rfl (.cons rfl (.cons rfl .nil))) ?_
    repeat refine J.seq ?_
    refine J.block ?_
    skip
    repeat refine J.seq ?_
    refine J.reg0 hmx (by kernel_rfl) (by kernel_rfl) ?_
    refine RT.t (ob_fieldAddr fo_api_Value_0 rfl) ?_
    refine RT.t (ob_ld1 sz_int rfl rfl) ?_
    refine RT.t (ob_eql rfl rfl) ?_
    refine RT.t (ob_move rfl) ?_
    refine RT.g rfl rfl rfl (fun hg => ob_move (.inl rfl)) ?_
    refine RT.g rfl rfl rfl (fun hg => ob_len un_sl_uint8 (.inr ⟨_, rfl, fun h => h⟩)) ?_
    refine RT.g rfl rfl rfl (fun hg => ob_eql (.inr ⟨_, rfl, fun h => h⟩) (.inl rfl)) ?_
    refine RT.t (ob_pickAnd rfl rfl rfl id) ?_
    refine RT.t (ob_assign rfl) ?_
    refine RT.nil ?_
    refine FinS.nil0 ?_
    repeat (first | refine JX.next ?_ | refine JX.normal_block ?_)
    refine J.sel [0, 2, 4, 16] (.cons rfl (.cons rfl (.cons rfl (.cons rfl .nil)))) ?_
    repeat refine J.seq ?_
    refine J.cond rfl (fun ht16 => ?_) (fun ht16 => ?_)
    ·
      try simp only [decide_eq_true_eq, decide_eq_false_iff_not] at ht16
      have h9 : l.length = 9 := by have h := (and_split2 ht16).2; simp at h; omega
      refine J.fact (RowG bC 1 (l.drop 1) (adS a 1 cap 1) (l.length - 1)) (fun E w hF _ => fun w1 hk => rowG_drop (hF (RowG bC 1 l a l.length) (by repeat (first | exact List.mem_cons_self | apply List.mem_cons_of_mem)) w1 hk) hlc (by omega)) ?_
      repeat refine J.seq ?_
      refine J.plain ?_
      refine JO.t (ob_move rfl) rfl ?_
      refine JO.t (ob_sliceLo un_sl_uint8 el_sl_uint8 rfl rfl (by omega) (by omega)) rfl ?_
      refine JO.t (ob_call rfl (c_value_number (l.drop 1) true (by rw [List.length_drop]; omega)) (.sub rfl (Sub.slFactC (by repeat (first | exact List.mem_cons_self | apply List.mem_cons_of_mem)) (by omega)) (.one rfl .nil))) rfl ?_
      refine JO.t (ob_xor rfl rfl) rfl ?_
      refine JO.t (ob_convIIe (cc := unbI (leV (l.drop 1).reverse)) ⟨_, un_uint64⟩ un_int64 rfl (unb_eq (l.drop 1) (by rw [List.length_drop]; omega))) rfl ?_
      refine JO.t (ob_fieldAddr fo_api_Value_1 rfl) rfl ?_
      refine JO.m (obm_storeF (cs' := [_, _, _]) rfl rfl (by repeat (first | exact .here | apply Upd.there)) rfl rfl rfl rfl ss_int64) (by rfl) ?_
      refine JO.nil ?_
      repeat (first | refine JX.next ?_ | refine JX.normal_block ?_)
      refine J.sel [0, 2, 4] (.cons rfl (.cons rfl (.cons rfl .nil))) ?_
      have hc := (show candA l = _ by unfold candA; rw [if_pos ht16])
      refine J.coerO (e := ty_api_Value) (b := b4) (T' := .is (.agg #[.int .i64 (candA l).k, .int .i64 (candA l).n, .string (candA l).s])) (by repeat (first | exact .here | apply Upd.there)) (Sub.isEq (by first | (rw [hc]; done) | (rw [hc]; rfl))) ?_
      repeat refine J.seq ?_
      refine J.plain ?_
      refine JO.t (ob_ldN (cs := [_, _, _]) sz_api_Value rfl rfl rfl) rfl ?_
      refine JO.t (ob_callF rfl (c_value_Key (candA l) (candA_rng l)) (by simp) (.one rfl .nil)) rfl ?_
      refine JO.t (ob_move rfl) rfl ?_
      refine JO.t (ob_extract0 rfl) rfl ?_
      refine JO.t (ob_extract1 rfl) rfl ?_
      refine JO.t (ob_assign rfl) rfl ?_
      refine JO.t (ob_assign rfl) rfl ?_
      refine JO.nil ?_
      repeat (first | refine JX.next ?_ | refine JX.normal_block ?_)
      refine J.sel [0, 2, 4, 5, 6] (.cons rfl (.cons rfl (.cons rfl (.cons rfl (.cons rfl .nil))))) ?_
      refine J.openSlC (s := 5) rfl (fun a5 n5 c5 q5 o5 hl5 ha5 hc5 => ?_)
      repeat refine J.seq ?_
      refine J.reg0 hmx (by kernel_rfl) (by kernel_rfl) ?_
      refine RT.t (ob_move rfl) ?_
      refine RT.t (ob_neq rfl rfl) ?_
      refine RT.t (ob_move rfl) ?_
      refine RT.g rfl rfl rfl (fun hg => ob_move (.inl rfl)) ?_
      refine RT.g rfl rfl rfl (fun hg => ob_str un_sl_uint8 un_uint8 un_string (.inr ⟨_, rfl, fun h => h⟩) (by repeat (first | exact List.mem_cons_self | apply List.mem_cons_of_mem))) ?_
      refine RT.g rfl rfl rfl (fun hg => ob_move (.inl rfl)) ?_
      refine RT.g rfl rfl rfl (fun hg => ob_str un_sl_uint8 un_uint8 un_string (.inr ⟨_, rfl, fun h => h⟩) (by repeat (first | exact List.mem_cons_self | apply List.mem_cons_of_mem))) ?_
      refine RT.g rfl rfl rfl (fun hg => ob_sneq (.inr ⟨_, rfl, fun h => h⟩) (.inr ⟨_, rfl, fun h => h⟩)) ?_
      refine RT.t (ob_pickOr rfl rfl rfl id) ?_
      refine RT.nil ?_
      refine FinS.nil0 ?_
      repeat (first | refine JX.next ?_ | refine JX.normal_block ?_)
      refine J.sel [2, 4, 75] (.cons rfl (.cons rfl (.cons rfl .nil))) ?_
      repeat refine J.seq ?_
      refine J.cond rfl (fun ht75 => ?_) (fun ht75 => ?_)
      ·
        try simp only [decide_eq_true_eq, decide_eq_false_iff_not] at ht75
        repeat refine J.seq ?_
        refine J.plain ?_
        refine JO.t (ob_build (cs := [_, _, _]) sh_api_Value .nil rfl rfl) rfl ?_
        refine JO.m (obm_store rfl rfl (by repeat (first | exact .here | apply Upd.there)) (by first | exact cnt_is rfl rfl | exact cnt_ex) (by first | exact cnt_is rfl rfl | exact cnt_ex | exact cnt_aggO) ss_api_Value) (by rfl) ?_
        refine JO.t (ob_assign rfl) rfl ?_
        refine JO.nil ?_
        repeat (first | refine JX.next ?_ | refine JX.normal_block ?_)
        refine J.sel [2, 3] (.cons rfl (.cons rfl .nil)) ?_
        repeat refine J.seq ?_
        refine J.ret ?_
        repeat (first | refine JX.ret_pass ?_ | refine JX.ret_block ?_)
        exact JX.retC1is rfl rfl sz_api_Value HasOwn.mem rfl rfl (by rw [fk_yes ht75]) (by rw [fk_yes ht75])
      ·
        try simp only [decide_eq_true_eq, decide_eq_false_iff_not] at ht75
        refine J.skip ?_
        repeat (first | refine JX.next ?_ | refine JX.normal_block ?_)
        repeat refine J.seq ?_
        refine J.plain ?_
        refine JO.t (ob_ldN (cs := [_, _, _]) sz_api_Value rfl rfl rfl) rfl ?_
        refine JO.m (obm_store rfl rfl (by repeat (first | exact .here | apply Upd.there)) (by first | exact cnt_is rfl rfl | exact cnt_ex) (by first | exact cnt_is rfl rfl | exact cnt_ex | exact cnt_aggO) ss_api_Value) (by rfl) ?_
        refine JO.t (ob_assign rfl) rfl ?_
        refine JO.nil ?_
        repeat (first | refine JX.next ?_ | refine JX.normal_block ?_)
        refine J.sel [2, 3] (.cons rfl (.cons rfl .nil)) ?_
        repeat refine J.seq ?_
        refine J.ret ?_
        repeat (first | refine JX.ret_pass ?_ | refine JX.ret_block ?_)
        exact JX.retC1is rfl rfl sz_api_Value HasOwn.mem rfl rfl (by rw [fk_no ht75]) (by rw [fk_no ht75])
    ·
      try simp only [decide_eq_true_eq, decide_eq_false_iff_not] at ht16
      repeat refine J.seq ?_
      refine J.reg0 hmx (by kernel_rfl) (by kernel_rfl) ?_
      refine RT.t (ob_fieldAddr fo_api_Value_0 rfl) ?_
      refine RT.t (ob_ld1 sz_int rfl rfl) ?_
      refine RT.t (ob_eql rfl rfl) ?_
      refine RT.t (ob_move rfl) ?_
      refine RT.g rfl rfl rfl (fun hg => ob_move (.inl rfl)) ?_
      refine RT.g rfl rfl rfl (fun hg => ob_len un_sl_uint8 (.inr ⟨_, rfl, fun h => h⟩)) ?_
      refine RT.g rfl rfl rfl (fun hg => ob_eql (.inr ⟨_, rfl, fun h => h⟩) (.inl rfl)) ?_
      refine RT.t (ob_pickAnd rfl rfl rfl id) ?_
      refine RT.t (ob_assign rfl) ?_
      refine RT.nil ?_
      refine FinS.nil0 ?_
      repeat (first | refine JX.next ?_ | refine JX.normal_block ?_)
      refine J.sel [0, 2, 4, 31] (.cons rfl (.cons rfl (.cons rfl (.cons rfl .nil)))) ?_
      repeat refine J.seq ?_
      refine J.cond rfl (fun ht31 => ?_) (fun ht31 => ?_)
      ·
        try simp only [decide_eq_true_eq, decide_eq_false_iff_not] at ht31
        have h2 : l.length = 2 := by have h := (and_split2 ht31).2; simp at h; omega
        repeat refine J.seq ?_
        refine J.plain ?_
        refine JO.t (ob_move rfl) rfl ?_
        refine JO.t (ob_indexAddr el_sl_uint8 rfl (ha (by omega)) rfl (by omega) (by omega)) rfl ?_
        refine JO.t (ob_loadG1 (enc := bC) (sz := 1) (len := l.length) (i := 1) (j := 0) (y := l.getD 1 0) sz_uint8 rfl (by repeat (first | exact List.mem_cons_self | apply List.mem_cons_of_mem)) (ha (by omega)) (u8_get (by omega)) (by rfl) rfl) rfl ?_
        refine JO.t (ob_convIIe (cc := ((l.getD 1 0).toNat : Int)) ⟨_, un_uint8⟩ un_int64 rfl (wrap64_eq (by omega) (by have := UInt8.toNat_lt (l.getD 1 0); omega))) rfl ?_
        refine JO.t (ob_fieldAddr fo_api_Value_1 rfl) rfl ?_
        refine JO.m (obm_storeF (cs' := [_, _, _]) rfl rfl (by repeat (first | exact .here | apply Upd.there)) rfl rfl rfl rfl ss_int64) (by rfl) ?_
        refine JO.nil ?_
        repeat (first | refine JX.next ?_ | refine JX.normal_block ?_)
        refine J.sel [0, 2, 4] (.cons rfl (.cons rfl (.cons rfl .nil))) ?_
        have hc := (show candA l = _ by unfold candA; rw [if_neg (by rw [ht16]; simp), if_pos ht31])
        refine J.coerO (e := ty_api_Value) (b := b4) (T' := .is (.agg #[.int .i64 (candA l).k, .int .i64 (candA l).n, .string (candA l).s])) (by repeat (first | exact .here | apply Upd.there)) (Sub.isEq (by first | (rw [hc]; done) | (rw [hc]; rfl))) ?_
        repeat refine J.seq ?_
        refine J.plain ?_
        refine JO.t (ob_ldN (cs := [_, _, _]) sz_api_Value rfl rfl rfl) rfl ?_
        refine JO.t (ob_callF rfl (c_value_Key (candA l) (candA_rng l)) (by simp) (.one rfl .nil)) rfl ?_
        refine JO.t (ob_move rfl) rfl ?_
        refine JO.t (ob_extract0 rfl) rfl ?_
        refine JO.t (ob_extract1 rfl) rfl ?_
        refine JO.t (ob_assign rfl) rfl ?_
        refine JO.t (ob_assign rfl) rfl ?_
        refine JO.nil ?_
        repeat (first | refine JX.next ?_ | refine JX.normal_block ?_)
        refine J.sel [0, 2, 4, 5, 6] (.cons rfl (.cons rfl (.cons rfl (.cons rfl (.cons rfl .nil))))) ?_
        refine J.openSlC (s := 5) rfl (fun a5 n5 c5 q5 o5 hl5 ha5 hc5 => ?_)
        repeat refine J.seq ?_
        refine J.reg0 hmx (by kernel_rfl) (by kernel_rfl) ?_
        refine RT.t (ob_move rfl) ?_
        refine RT.t (ob_neq rfl rfl) ?_
        refine RT.t (ob_move rfl) ?_
        refine RT.g rfl rfl rfl (fun hg => ob_move (.inl rfl)) ?_
        refine RT.g rfl rfl rfl (fun hg => ob_str un_sl_uint8 un_uint8 un_string (.inr ⟨_, rfl, fun h => h⟩) (by repeat (first | exact List.mem_cons_self | apply List.mem_cons_of_mem))) ?_
        refine RT.g rfl rfl rfl (fun hg => ob_move (.inl rfl)) ?_
        refine RT.g rfl rfl rfl (fun hg => ob_str un_sl_uint8 un_uint8 un_string (.inr ⟨_, rfl, fun h => h⟩) (by repeat (first | exact List.mem_cons_self | apply List.mem_cons_of_mem))) ?_
        refine RT.g rfl rfl rfl (fun hg => ob_sneq (.inr ⟨_, rfl, fun h => h⟩) (.inr ⟨_, rfl, fun h => h⟩)) ?_
        refine RT.t (ob_pickOr rfl rfl rfl id) ?_
        refine RT.nil ?_
        refine FinS.nil0 ?_
        repeat (first | refine JX.next ?_ | refine JX.normal_block ?_)
        refine J.sel [2, 4, 75] (.cons rfl (.cons rfl (.cons rfl .nil))) ?_
        repeat refine J.seq ?_
        refine J.cond rfl (fun ht75 => ?_) (fun ht75 => ?_)
        ·
          try simp only [decide_eq_true_eq, decide_eq_false_iff_not] at ht75
          repeat refine J.seq ?_
          refine J.plain ?_
          refine JO.t (ob_build (cs := [_, _, _]) sh_api_Value .nil rfl rfl) rfl ?_
          refine JO.m (obm_store rfl rfl (by repeat (first | exact .here | apply Upd.there)) (by first | exact cnt_is rfl rfl | exact cnt_ex) (by first | exact cnt_is rfl rfl | exact cnt_ex | exact cnt_aggO) ss_api_Value) (by rfl) ?_
          refine JO.t (ob_assign rfl) rfl ?_
          refine JO.nil ?_
          repeat (first | refine JX.next ?_ | refine JX.normal_block ?_)
          refine J.sel [2, 3] (.cons rfl (.cons rfl .nil)) ?_
          repeat refine J.seq ?_
          refine J.ret ?_
          repeat (first | refine JX.ret_pass ?_ | refine JX.ret_block ?_)
          exact JX.retC1is rfl rfl sz_api_Value HasOwn.mem rfl rfl (by rw [fk_yes ht75]) (by rw [fk_yes ht75])
        ·
          try simp only [decide_eq_true_eq, decide_eq_false_iff_not] at ht75
          refine J.skip ?_
          repeat (first | refine JX.next ?_ | refine JX.normal_block ?_)
          repeat refine J.seq ?_
          refine J.plain ?_
          refine JO.t (ob_ldN (cs := [_, _, _]) sz_api_Value rfl rfl rfl) rfl ?_
          refine JO.m (obm_store rfl rfl (by repeat (first | exact .here | apply Upd.there)) (by first | exact cnt_is rfl rfl | exact cnt_ex) (by first | exact cnt_is rfl rfl | exact cnt_ex | exact cnt_aggO) ss_api_Value) (by rfl) ?_
          refine JO.t (ob_assign rfl) rfl ?_
          refine JO.nil ?_
          repeat (first | refine JX.next ?_ | refine JX.normal_block ?_)
          refine J.sel [2, 3] (.cons rfl (.cons rfl .nil)) ?_
          repeat refine J.seq ?_
          refine J.ret ?_
          repeat (first | refine JX.ret_pass ?_ | refine JX.ret_block ?_)
          exact JX.retC1is rfl rfl sz_api_Value HasOwn.mem rfl rfl (by rw [fk_no ht75]) (by rw [fk_no ht75])
      ·
        try simp only [decide_eq_true_eq, decide_eq_false_iff_not] at ht31
        repeat refine J.seq ?_
        refine J.reg0 hmx (by kernel_rfl) (by kernel_rfl) ?_
        refine RT.t (ob_fieldAddr fo_api_Value_0 rfl) ?_
        refine RT.t (ob_ld1 sz_int rfl rfl) ?_
        refine RT.t (ob_eql rfl rfl) ?_
        refine RT.t (ob_move rfl) ?_
        refine RT.g rfl rfl rfl (fun hg => ob_move (.inl rfl)) ?_
        refine RT.g rfl rfl rfl (fun hg => ob_len un_sl_uint8 (.inr ⟨_, rfl, fun h => h⟩)) ?_
        refine RT.g rfl rfl rfl (fun hg => ob_geq (.inr ⟨_, rfl, fun h => h⟩) (.inl rfl)) ?_
        refine RT.t (ob_pickAnd rfl rfl rfl id) ?_
        refine RT.t (ob_assign rfl) ?_
        refine RT.nil ?_
        refine FinS.nil0 ?_
        repeat (first | refine JX.next ?_ | refine JX.normal_block ?_)
        refine J.sel [0, 2, 4, 45] (.cons rfl (.cons rfl (.cons rfl (.cons rfl .nil)))) ?_
        repeat refine J.seq ?_
        refine J.cond rfl (fun ht45 => ?_) (fun ht45 => ?_)
        ·
          try simp only [decide_eq_true_eq, decide_eq_false_iff_not] at ht45
          have h3 : 3 ≤ l.length := by have h := (and_split2 ht45).2; simp at h; omega
          have hcb := Lib.countB_le (⟨#[0, 255]⟩ : ByteArray) (by decide) _ (bl ((l.drop 1).take (l.length - 3))) (Nat.le_refl _)
          have hsz : (bl ((l.drop 1).take (l.length - 3))).size ≤ l.length := by rw [bl_size, List.length_take, List.length_drop]; omega
          refine J.fact (RowG bC 1 ((l.drop 1).take (l.length - 3)) (adS a 1 cap 1) (l.length - 2 - 1)) (fun E w hF _ => fun w1 hk => by rw [show l.length - 2 - 1 = l.length - 3 by omega]; exact rowG_part (hF (RowG bC 1 l a l.length) (by repeat (first | exact List.mem_cons_self | apply List.mem_cons_of_mem)) w1 hk) hlc 1 (l.length - 3) (by omega)) ?_
          repeat refine J.seq ?_
          refine J.plain ?_
          refine JO.t (ob_move rfl) rfl ?_
          refine JO.t (ob_move rfl) rfl ?_
          refine JO.t (ob_len un_sl_uint8 rfl) rfl ?_
          refine JO.t (ob_subc (cc := ((l.length - 2 : Nat) : Int)) rfl rfl (by omega) (by omega) (by omega)) rfl ?_
          refine JO.t (ob_sliceLH un_sl_uint8 el_sl_uint8 rfl rfl rfl (by omega) (by omega) (by omega)) rfl ?_
          refine JO.t (ob_str un_sl_uint8 un_uint8 un_string rfl (by repeat (first | exact List.mem_cons_self | apply List.mem_cons_of_mem))) rfl ?_
          refine JO.t (ob_callF rfl (c_strings_ReplaceAll (bl ((l.drop 1).take (l.length - 3))) ⟨#[0, 255]⟩ ⟨#[0]⟩ (by decide) (by omega) (by have : (⟨#[0]⟩ : ByteArray).size = 1 := rfl; rw [this]; omega)) (by simp) (.one rfl (.one rfl (.one rfl .nil)))) rfl ?_
          refine JO.t (ob_fieldAddr fo_api_Value_2 rfl) rfl ?_
          refine JO.m (obm_storeF (cs' := [_, _, _]) rfl rfl (by repeat (first | exact .here | apply Upd.there)) rfl rfl rfl rfl ss_string) (by rfl) ?_
          refine JO.nil ?_
          repeat (first | refine JX.next ?_ | refine JX.normal_block ?_)
          refine J.sel [0, 2, 4] (.cons rfl (.cons rfl (.cons rfl .nil))) ?_
          have hc := (show candA l = _ by unfold candA; rw [if_neg (by rw [ht16]; simp), if_neg (by rw [ht31]; simp), if_pos ht45])
          refine J.coerO (e := ty_api_Value) (b := b4) (T' := .is (.agg #[.int .i64 (candA l).k, .int .i64 (candA l).n, .string (candA l).s])) (by repeat (first | exact .here | apply Upd.there)) (Sub.isEq (by first | (rw [hc]; done) | (rw [hc]; rfl))) ?_
          repeat refine J.seq ?_
          refine J.plain ?_
          refine JO.t (ob_ldN (cs := [_, _, _]) sz_api_Value rfl rfl rfl) rfl ?_
          refine JO.t (ob_callF rfl (c_value_Key (candA l) (candA_rng l)) (by simp) (.one rfl .nil)) rfl ?_
          refine JO.t (ob_move rfl) rfl ?_
          refine JO.t (ob_extract0 rfl) rfl ?_
          refine JO.t (ob_extract1 rfl) rfl ?_
          refine JO.t (ob_assign rfl) rfl ?_
          refine JO.t (ob_assign rfl) rfl ?_
          refine JO.nil ?_
          repeat (first | refine JX.next ?_ | refine JX.normal_block ?_)
          refine J.sel [0, 2, 4, 5, 6] (.cons rfl (.cons rfl (.cons rfl (.cons rfl (.cons rfl .nil))))) ?_
          refine J.openSlC (s := 5) rfl (fun a5 n5 c5 q5 o5 hl5 ha5 hc5 => ?_)
          repeat refine J.seq ?_
          refine J.reg0 hmx (by kernel_rfl) (by kernel_rfl) ?_
          refine RT.t (ob_move rfl) ?_
          refine RT.t (ob_neq rfl rfl) ?_
          refine RT.t (ob_move rfl) ?_
          refine RT.g rfl rfl rfl (fun hg => ob_move (.inl rfl)) ?_
          refine RT.g rfl rfl rfl (fun hg => ob_str un_sl_uint8 un_uint8 un_string (.inr ⟨_, rfl, fun h => h⟩) (by repeat (first | exact List.mem_cons_self | apply List.mem_cons_of_mem))) ?_
          refine RT.g rfl rfl rfl (fun hg => ob_move (.inl rfl)) ?_
          refine RT.g rfl rfl rfl (fun hg => ob_str un_sl_uint8 un_uint8 un_string (.inr ⟨_, rfl, fun h => h⟩) (by repeat (first | exact List.mem_cons_self | apply List.mem_cons_of_mem))) ?_
          refine RT.g rfl rfl rfl (fun hg => ob_sneq (.inr ⟨_, rfl, fun h => h⟩) (.inr ⟨_, rfl, fun h => h⟩)) ?_
          refine RT.t (ob_pickOr rfl rfl rfl id) ?_
          refine RT.nil ?_
          refine FinS.nil0 ?_
          repeat (first | refine JX.next ?_ | refine JX.normal_block ?_)
          refine J.sel [2, 4, 75] (.cons rfl (.cons rfl (.cons rfl .nil))) ?_
          repeat refine J.seq ?_
          refine J.cond rfl (fun ht75 => ?_) (fun ht75 => ?_)
          ·
            try simp only [decide_eq_true_eq, decide_eq_false_iff_not] at ht75
            repeat refine J.seq ?_
            refine J.plain ?_
            refine JO.t (ob_build (cs := [_, _, _]) sh_api_Value .nil rfl rfl) rfl ?_
            refine JO.m (obm_store rfl rfl (by repeat (first | exact .here | apply Upd.there)) (by first | exact cnt_is rfl rfl | exact cnt_ex) (by first | exact cnt_is rfl rfl | exact cnt_ex | exact cnt_aggO) ss_api_Value) (by rfl) ?_
            refine JO.t (ob_assign rfl) rfl ?_
            refine JO.nil ?_
            repeat (first | refine JX.next ?_ | refine JX.normal_block ?_)
            refine J.sel [2, 3] (.cons rfl (.cons rfl .nil)) ?_
            repeat refine J.seq ?_
            refine J.ret ?_
            repeat (first | refine JX.ret_pass ?_ | refine JX.ret_block ?_)
            exact JX.retC1is rfl rfl sz_api_Value HasOwn.mem rfl rfl (by rw [fk_yes ht75]) (by rw [fk_yes ht75])
          ·
            try simp only [decide_eq_true_eq, decide_eq_false_iff_not] at ht75
            refine J.skip ?_
            repeat (first | refine JX.next ?_ | refine JX.normal_block ?_)
            repeat refine J.seq ?_
            refine J.plain ?_
            refine JO.t (ob_ldN (cs := [_, _, _]) sz_api_Value rfl rfl rfl) rfl ?_
            refine JO.m (obm_store rfl rfl (by repeat (first | exact .here | apply Upd.there)) (by first | exact cnt_is rfl rfl | exact cnt_ex) (by first | exact cnt_is rfl rfl | exact cnt_ex | exact cnt_aggO) ss_api_Value) (by rfl) ?_
            refine JO.t (ob_assign rfl) rfl ?_
            refine JO.nil ?_
            repeat (first | refine JX.next ?_ | refine JX.normal_block ?_)
            refine J.sel [2, 3] (.cons rfl (.cons rfl .nil)) ?_
            repeat refine J.seq ?_
            refine J.ret ?_
            repeat (first | refine JX.ret_pass ?_ | refine JX.ret_block ?_)
            exact JX.retC1is rfl rfl sz_api_Value HasOwn.mem rfl rfl (by rw [fk_no ht75]) (by rw [fk_no ht75])
        ·
          try simp only [decide_eq_true_eq, decide_eq_false_iff_not] at ht45
          refine J.skip ?_
          repeat (first | refine JX.next ?_ | refine JX.normal_block ?_)
          have hc := (show candA l = _ by unfold candA; rw [if_neg (by rw [ht16]; simp), if_neg (by rw [ht31]; simp), if_neg (by rw [ht45]; simp)])
          refine J.coerO (e := ty_api_Value) (b := b4) (T' := .is (.agg #[.int .i64 (candA l).k, .int .i64 (candA l).n, .string (candA l).s])) (by repeat (first | exact .here | apply Upd.there)) (Sub.isEq (by first | (rw [hc]; done) | (rw [hc]; rfl))) ?_
          repeat refine J.seq ?_
          refine J.plain ?_
          refine JO.t (ob_ldN (cs := [_, _, _]) sz_api_Value rfl rfl rfl) rfl ?_
          refine JO.t (ob_callF rfl (c_value_Key (candA l) (candA_rng l)) (by simp) (.one rfl .nil)) rfl ?_
          refine JO.t (ob_move rfl) rfl ?_
          refine JO.t (ob_extract0 rfl) rfl ?_
          refine JO.t (ob_extract1 rfl) rfl ?_
          refine JO.t (ob_assign rfl) rfl ?_
          refine JO.t (ob_assign rfl) rfl ?_
          refine JO.nil ?_
          repeat (first | refine JX.next ?_ | refine JX.normal_block ?_)
          refine J.sel [0, 2, 4, 5, 6] (.cons rfl (.cons rfl (.cons rfl (.cons rfl (.cons rfl .nil))))) ?_
          refine J.openSlC (s := 5) rfl (fun a5 n5 c5 q5 o5 hl5 ha5 hc5 => ?_)
          repeat refine J.seq ?_
          refine J.reg0 hmx (by kernel_rfl) (by kernel_rfl) ?_
          refine RT.t (ob_move rfl) ?_
          refine RT.t (ob_neq rfl rfl) ?_
          refine RT.t (ob_move rfl) ?_
          refine RT.g rfl rfl rfl (fun hg => ob_move (.inl rfl)) ?_
          refine RT.g rfl rfl rfl (fun hg => ob_str un_sl_uint8 un_uint8 un_string (.inr ⟨_, rfl, fun h => h⟩) (by repeat (first | exact List.mem_cons_self | apply List.mem_cons_of_mem))) ?_
          refine RT.g rfl rfl rfl (fun hg => ob_move (.inl rfl)) ?_
          refine RT.g rfl rfl rfl (fun hg => ob_str un_sl_uint8 un_uint8 un_string (.inr ⟨_, rfl, fun h => h⟩) (by repeat (first | exact List.mem_cons_self | apply List.mem_cons_of_mem))) ?_
          refine RT.g rfl rfl rfl (fun hg => ob_sneq (.inr ⟨_, rfl, fun h => h⟩) (.inr ⟨_, rfl, fun h => h⟩)) ?_
          refine RT.t (ob_pickOr rfl rfl rfl id) ?_
          refine RT.nil ?_
          refine FinS.nil0 ?_
          repeat (first | refine JX.next ?_ | refine JX.normal_block ?_)
          refine J.sel [2, 4, 75] (.cons rfl (.cons rfl (.cons rfl .nil))) ?_
          repeat refine J.seq ?_
          refine J.cond rfl (fun ht75 => ?_) (fun ht75 => ?_)
          ·
            try simp only [decide_eq_true_eq, decide_eq_false_iff_not] at ht75
            repeat refine J.seq ?_
            refine J.plain ?_
            refine JO.t (ob_build (cs := [_, _, _]) sh_api_Value .nil rfl rfl) rfl ?_
            refine JO.m (obm_store rfl rfl (by repeat (first | exact .here | apply Upd.there)) (by first | exact cnt_is rfl rfl | exact cnt_ex) (by first | exact cnt_is rfl rfl | exact cnt_ex | exact cnt_aggO) ss_api_Value) (by rfl) ?_
            refine JO.t (ob_assign rfl) rfl ?_
            refine JO.nil ?_
            repeat (first | refine JX.next ?_ | refine JX.normal_block ?_)
            refine J.sel [2, 3] (.cons rfl (.cons rfl .nil)) ?_
            repeat refine J.seq ?_
            refine J.ret ?_
            repeat (first | refine JX.ret_pass ?_ | refine JX.ret_block ?_)
            exact JX.retC1is rfl rfl sz_api_Value HasOwn.mem rfl rfl (by rw [fk_yes ht75]) (by rw [fk_yes ht75])
          ·
            try simp only [decide_eq_true_eq, decide_eq_false_iff_not] at ht75
            refine J.skip ?_
            repeat (first | refine JX.next ?_ | refine JX.normal_block ?_)
            repeat refine J.seq ?_
            refine J.plain ?_
            refine JO.t (ob_ldN (cs := [_, _, _]) sz_api_Value rfl rfl rfl) rfl ?_
            refine JO.m (obm_store rfl rfl (by repeat (first | exact .here | apply Upd.there)) (by first | exact cnt_is rfl rfl | exact cnt_ex) (by first | exact cnt_is rfl rfl | exact cnt_ex | exact cnt_aggO) ss_api_Value) (by rfl) ?_
            refine JO.t (ob_assign rfl) rfl ?_
            refine JO.nil ?_
            repeat (first | refine JX.next ?_ | refine JX.normal_block ?_)
            refine J.sel [2, 3] (.cons rfl (.cons rfl .nil)) ?_
            repeat refine J.seq ?_
            refine J.ret ?_
            repeat (first | refine JX.ret_pass ?_ | refine JX.ret_block ?_)
            exact JX.retC1is rfl rfl sz_api_Value HasOwn.mem rfl rfl (by rw [fk_no ht75]) (by rw [fk_no ht75])
  ·
    try simp only [decide_eq_true_eq, decide_eq_false_iff_not] at ht10
    refine J.skip ?_
    repeat (first | refine JX.next ?_ | refine JX.normal_block ?_)
    repeat refine J.seq ?_
    refine J.block ?_
    refine J.coerO (e := ty_api_Value) (b := b4) (T' := .is (.agg #[.int .i64 ((k0 l : Nat) : Int), .int .i64 0, .string e0])) (by repeat (first | exact .here | apply Upd.there)) (Sub.isEq (by rw [k0_zero ht10]; rfl)) ?_
    repeat refine J.seq ?_
    refine J.reg0 hmx (by kernel_rfl) (by kernel_rfl) ?_
    refine RT.t (ob_fieldAddr fo_api_Value_0 rfl) ?_
    refine RT.t (ob_ld1 sz_int rfl rfl) ?_
    refine RT.t (ob_eql rfl rfl) ?_
    refine RT.t (ob_move rfl) ?_
    refine RT.g rfl rfl rfl (fun hg => ob_move (.inl rfl)) ?_
    refine RT.g rfl rfl rfl (fun hg => ob_len un_sl_uint8 (.inr ⟨_, rfl, fun h => h⟩)) ?_
    refine RT.g rfl rfl rfl (fun hg => ob_eql (.inr ⟨_, rfl, fun h => h⟩) (.inl rfl)) ?_
    refine RT.t (ob_pickAnd rfl rfl rfl id) ?_
    refine RT.t (ob_assign rfl) ?_
    refine RT.nil ?_
    refine FinS.nil0 ?_
    repeat (first | refine JX.next ?_ | refine JX.normal_block ?_)
    refine J.sel [0, 2, 4, 16] (.cons rfl (.cons rfl (.cons rfl (.cons rfl .nil)))) ?_
    repeat refine J.seq ?_
    refine J.cond rfl (fun ht16 => ?_) (fun ht16 => ?_)
    ·
      try simp only [decide_eq_true_eq, decide_eq_false_iff_not] at ht16
      have h9 : l.length = 9 := by have h := (and_split2 ht16).2; simp at h; omega
      refine J.fact (RowG bC 1 (l.drop 1) (adS a 1 cap 1) (l.length - 1)) (fun E w hF _ => fun w1 hk => rowG_drop (hF (RowG bC 1 l a l.length) (by repeat (first | exact List.mem_cons_self | apply List.mem_cons_of_mem)) w1 hk) hlc (by omega)) ?_
      repeat refine J.seq ?_
      refine J.plain ?_
      refine JO.t (ob_move rfl) rfl ?_
      refine JO.t (ob_sliceLo un_sl_uint8 el_sl_uint8 rfl rfl (by omega) (by omega)) rfl ?_
      refine JO.t (ob_call rfl (c_value_number (l.drop 1) true (by rw [List.length_drop]; omega)) (.sub rfl (Sub.slFactC (by repeat (first | exact List.mem_cons_self | apply List.mem_cons_of_mem)) (by omega)) (.one rfl .nil))) rfl ?_
      refine JO.t (ob_xor rfl rfl) rfl ?_
      refine JO.t (ob_convIIe (cc := unbI (leV (l.drop 1).reverse)) ⟨_, un_uint64⟩ un_int64 rfl (unb_eq (l.drop 1) (by rw [List.length_drop]; omega))) rfl ?_
      refine JO.t (ob_fieldAddr fo_api_Value_1 rfl) rfl ?_
      refine JO.m (obm_storeF (cs' := [_, _, _]) rfl rfl (by repeat (first | exact .here | apply Upd.there)) rfl rfl rfl rfl ss_int64) (by rfl) ?_
      refine JO.nil ?_
      repeat (first | refine JX.next ?_ | refine JX.normal_block ?_)
      refine J.sel [0, 2, 4] (.cons rfl (.cons rfl (.cons rfl .nil))) ?_
      have hc := (show candA l = _ by unfold candA; rw [if_pos ht16])
      refine J.coerO (e := ty_api_Value) (b := b4) (T' := .is (.agg #[.int .i64 (candA l).k, .int .i64 (candA l).n, .string (candA l).s])) (by repeat (first | exact .here | apply Upd.there)) (Sub.isEq (by first | (rw [hc]; done) | (rw [hc]; rfl))) ?_
      repeat refine J.seq ?_
      refine J.plain ?_
      refine JO.t (ob_ldN (cs := [_, _, _]) sz_api_Value rfl rfl rfl) rfl ?_
      refine JO.t (ob_callF rfl (c_value_Key (candA l) (candA_rng l)) (by simp) (.one rfl .nil)) rfl ?_
      refine JO.t (ob_move rfl) rfl ?_
      refine JO.t (ob_extract0 rfl) rfl ?_
      refine JO.t (ob_extract1 rfl) rfl ?_
      refine JO.t (ob_assign rfl) rfl ?_
      refine JO.t (ob_assign rfl) rfl ?_
      refine JO.nil ?_
      repeat (first | refine JX.next ?_ | refine JX.normal_block ?_)
      refine J.sel [0, 2, 4, 5, 6] (.cons rfl (.cons rfl (.cons rfl (.cons rfl (.cons rfl .nil))))) ?_
      refine J.openSlC (s := 5) rfl (fun a5 n5 c5 q5 o5 hl5 ha5 hc5 => ?_)
      repeat refine J.seq ?_
      refine J.reg0 hmx (by kernel_rfl) (by kernel_rfl) ?_
      refine RT.t (ob_move rfl) ?_
      refine RT.t (ob_neq rfl rfl) ?_
      refine RT.t (ob_move rfl) ?_
      refine RT.g rfl rfl rfl (fun hg => ob_move (.inl rfl)) ?_
      refine RT.g rfl rfl rfl (fun hg => ob_str un_sl_uint8 un_uint8 un_string (.inr ⟨_, rfl, fun h => h⟩) (by repeat (first | exact List.mem_cons_self | apply List.mem_cons_of_mem))) ?_
      refine RT.g rfl rfl rfl (fun hg => ob_move (.inl rfl)) ?_
      refine RT.g rfl rfl rfl (fun hg => ob_str un_sl_uint8 un_uint8 un_string (.inr ⟨_, rfl, fun h => h⟩) (by repeat (first | exact List.mem_cons_self | apply List.mem_cons_of_mem))) ?_
      refine RT.g rfl rfl rfl (fun hg => ob_sneq (.inr ⟨_, rfl, fun h => h⟩) (.inr ⟨_, rfl, fun h => h⟩)) ?_
      refine RT.t (ob_pickOr rfl rfl rfl id) ?_
      refine RT.nil ?_
      refine FinS.nil0 ?_
      repeat (first | refine JX.next ?_ | refine JX.normal_block ?_)
      refine J.sel [2, 4, 75] (.cons rfl (.cons rfl (.cons rfl .nil))) ?_
      repeat refine J.seq ?_
      refine J.cond rfl (fun ht75 => ?_) (fun ht75 => ?_)
      ·
        try simp only [decide_eq_true_eq, decide_eq_false_iff_not] at ht75
        repeat refine J.seq ?_
        refine J.plain ?_
        refine JO.t (ob_build (cs := [_, _, _]) sh_api_Value .nil rfl rfl) rfl ?_
        refine JO.m (obm_store rfl rfl (by repeat (first | exact .here | apply Upd.there)) (by first | exact cnt_is rfl rfl | exact cnt_ex) (by first | exact cnt_is rfl rfl | exact cnt_ex | exact cnt_aggO) ss_api_Value) (by rfl) ?_
        refine JO.t (ob_assign rfl) rfl ?_
        refine JO.nil ?_
        repeat (first | refine JX.next ?_ | refine JX.normal_block ?_)
        refine J.sel [2, 3] (.cons rfl (.cons rfl .nil)) ?_
        repeat refine J.seq ?_
        refine J.ret ?_
        repeat (first | refine JX.ret_pass ?_ | refine JX.ret_block ?_)
        exact JX.retC1is rfl rfl sz_api_Value HasOwn.mem rfl rfl (by rw [fk_yes ht75]) (by rw [fk_yes ht75])
      ·
        try simp only [decide_eq_true_eq, decide_eq_false_iff_not] at ht75
        refine J.skip ?_
        repeat (first | refine JX.next ?_ | refine JX.normal_block ?_)
        repeat refine J.seq ?_
        refine J.plain ?_
        refine JO.t (ob_ldN (cs := [_, _, _]) sz_api_Value rfl rfl rfl) rfl ?_
        refine JO.m (obm_store rfl rfl (by repeat (first | exact .here | apply Upd.there)) (by first | exact cnt_is rfl rfl | exact cnt_ex) (by first | exact cnt_is rfl rfl | exact cnt_ex | exact cnt_aggO) ss_api_Value) (by rfl) ?_
        refine JO.t (ob_assign rfl) rfl ?_
        refine JO.nil ?_
        repeat (first | refine JX.next ?_ | refine JX.normal_block ?_)
        refine J.sel [2, 3] (.cons rfl (.cons rfl .nil)) ?_
        repeat refine J.seq ?_
        refine J.ret ?_
        repeat (first | refine JX.ret_pass ?_ | refine JX.ret_block ?_)
        exact JX.retC1is rfl rfl sz_api_Value HasOwn.mem rfl rfl (by rw [fk_no ht75]) (by rw [fk_no ht75])
    ·
      try simp only [decide_eq_true_eq, decide_eq_false_iff_not] at ht16
      repeat refine J.seq ?_
      refine J.reg0 hmx (by kernel_rfl) (by kernel_rfl) ?_
      refine RT.t (ob_fieldAddr fo_api_Value_0 rfl) ?_
      refine RT.t (ob_ld1 sz_int rfl rfl) ?_
      refine RT.t (ob_eql rfl rfl) ?_
      refine RT.t (ob_move rfl) ?_
      refine RT.g rfl rfl rfl (fun hg => ob_move (.inl rfl)) ?_
      refine RT.g rfl rfl rfl (fun hg => ob_len un_sl_uint8 (.inr ⟨_, rfl, fun h => h⟩)) ?_
      refine RT.g rfl rfl rfl (fun hg => ob_eql (.inr ⟨_, rfl, fun h => h⟩) (.inl rfl)) ?_
      refine RT.t (ob_pickAnd rfl rfl rfl id) ?_
      refine RT.t (ob_assign rfl) ?_
      refine RT.nil ?_
      refine FinS.nil0 ?_
      repeat (first | refine JX.next ?_ | refine JX.normal_block ?_)
      refine J.sel [0, 2, 4, 31] (.cons rfl (.cons rfl (.cons rfl (.cons rfl .nil)))) ?_
      repeat refine J.seq ?_
      refine J.cond rfl (fun ht31 => ?_) (fun ht31 => ?_)
      ·
        try simp only [decide_eq_true_eq, decide_eq_false_iff_not] at ht31
        have h2 : l.length = 2 := by have h := (and_split2 ht31).2; simp at h; omega
        repeat refine J.seq ?_
        refine J.plain ?_
        refine JO.t (ob_move rfl) rfl ?_
        refine JO.t (ob_indexAddr el_sl_uint8 rfl (ha (by omega)) rfl (by omega) (by omega)) rfl ?_
        refine JO.t (ob_loadG1 (enc := bC) (sz := 1) (len := l.length) (i := 1) (j := 0) (y := l.getD 1 0) sz_uint8 rfl (by repeat (first | exact List.mem_cons_self | apply List.mem_cons_of_mem)) (ha (by omega)) (u8_get (by omega)) (by rfl) rfl) rfl ?_
        refine JO.t (ob_convIIe (cc := ((l.getD 1 0).toNat : Int)) ⟨_, un_uint8⟩ un_int64 rfl (wrap64_eq (by omega) (by have := UInt8.toNat_lt (l.getD 1 0); omega))) rfl ?_
        refine JO.t (ob_fieldAddr fo_api_Value_1 rfl) rfl ?_
        refine JO.m (obm_storeF (cs' := [_, _, _]) rfl rfl (by repeat (first | exact .here | apply Upd.there)) rfl rfl rfl rfl ss_int64) (by rfl) ?_
        refine JO.nil ?_
        repeat (first | refine JX.next ?_ | refine JX.normal_block ?_)
        refine J.sel [0, 2, 4] (.cons rfl (.cons rfl (.cons rfl .nil))) ?_
        have hc := (show candA l = _ by unfold candA; rw [if_neg (by rw [ht16]; simp), if_pos ht31])
        refine J.coerO (e := ty_api_Value) (b := b4) (T' := .is (.agg #[.int .i64 (candA l).k, .int .i64 (candA l).n, .string (candA l).s])) (by repeat (first | exact .here | apply Upd.there)) (Sub.isEq (by first | (rw [hc]; done) | (rw [hc]; rfl))) ?_
        repeat refine J.seq ?_
        refine J.plain ?_
        refine JO.t (ob_ldN (cs := [_, _, _]) sz_api_Value rfl rfl rfl) rfl ?_
        refine JO.t (ob_callF rfl (c_value_Key (candA l) (candA_rng l)) (by simp) (.one rfl .nil)) rfl ?_
        refine JO.t (ob_move rfl) rfl ?_
        refine JO.t (ob_extract0 rfl) rfl ?_
        refine JO.t (ob_extract1 rfl) rfl ?_
        refine JO.t (ob_assign rfl) rfl ?_
        refine JO.t (ob_assign rfl) rfl ?_
        refine JO.nil ?_
        repeat (first | refine JX.next ?_ | refine JX.normal_block ?_)
        refine J.sel [0, 2, 4, 5, 6] (.cons rfl (.cons rfl (.cons rfl (.cons rfl (.cons rfl .nil))))) ?_
        refine J.openSlC (s := 5) rfl (fun a5 n5 c5 q5 o5 hl5 ha5 hc5 => ?_)
        repeat refine J.seq ?_
        refine J.reg0 hmx (by kernel_rfl) (by kernel_rfl) ?_
        refine RT.t (ob_move rfl) ?_
        refine RT.t (ob_neq rfl rfl) ?_
        refine RT.t (ob_move rfl) ?_
        refine RT.g rfl rfl rfl (fun hg => ob_move (.inl rfl)) ?_
        refine RT.g rfl rfl rfl (fun hg => ob_str un_sl_uint8 un_uint8 un_string (.inr ⟨_, rfl, fun h => h⟩) (by repeat (first | exact List.mem_cons_self | apply List.mem_cons_of_mem))) ?_
        refine RT.g rfl rfl rfl (fun hg => ob_move (.inl rfl)) ?_
        refine RT.g rfl rfl rfl (fun hg => ob_str un_sl_uint8 un_uint8 un_string (.inr ⟨_, rfl, fun h => h⟩) (by repeat (first | exact List.mem_cons_self | apply List.mem_cons_of_mem))) ?_
        refine RT.g rfl rfl rfl (fun hg => ob_sneq (.inr ⟨_, rfl, fun h => h⟩) (.inr ⟨_, rfl, fun h => h⟩)) ?_
        refine RT.t (ob_pickOr rfl rfl rfl id) ?_
        refine RT.nil ?_
        refine FinS.nil0 ?_
        repeat (first | refine JX.next ?_ | refine JX.normal_block ?_)
        refine J.sel [2, 4, 75] (.cons rfl (.cons rfl (.cons rfl .nil))) ?_
        repeat refine J.seq ?_
        refine J.cond rfl (fun ht75 => ?_) (fun ht75 => ?_)
        ·
          try simp only [decide_eq_true_eq, decide_eq_false_iff_not] at ht75
          repeat refine J.seq ?_
          refine J.plain ?_
          refine JO.t (ob_build (cs := [_, _, _]) sh_api_Value .nil rfl rfl) rfl ?_
          refine JO.m (obm_store rfl rfl (by repeat (first | exact .here | apply Upd.there)) (by first | exact cnt_is rfl rfl | exact cnt_ex) (by first | exact cnt_is rfl rfl | exact cnt_ex | exact cnt_aggO) ss_api_Value) (by rfl) ?_
          refine JO.t (ob_assign rfl) rfl ?_
          refine JO.nil ?_
          repeat (first | refine JX.next ?_ | refine JX.normal_block ?_)
          refine J.sel [2, 3] (.cons rfl (.cons rfl .nil)) ?_
          repeat refine J.seq ?_
          refine J.ret ?_
          repeat (first | refine JX.ret_pass ?_ | refine JX.ret_block ?_)
          exact JX.retC1is rfl rfl sz_api_Value HasOwn.mem rfl rfl (by rw [fk_yes ht75]) (by rw [fk_yes ht75])
        ·
          try simp only [decide_eq_true_eq, decide_eq_false_iff_not] at ht75
          refine J.skip ?_
          repeat (first | refine JX.next ?_ | refine JX.normal_block ?_)
          repeat refine J.seq ?_
          refine J.plain ?_
          refine JO.t (ob_ldN (cs := [_, _, _]) sz_api_Value rfl rfl rfl) rfl ?_
          refine JO.m (obm_store rfl rfl (by repeat (first | exact .here | apply Upd.there)) (by first | exact cnt_is rfl rfl | exact cnt_ex) (by first | exact cnt_is rfl rfl | exact cnt_ex | exact cnt_aggO) ss_api_Value) (by rfl) ?_
          refine JO.t (ob_assign rfl) rfl ?_
          refine JO.nil ?_
          repeat (first | refine JX.next ?_ | refine JX.normal_block ?_)
          refine J.sel [2, 3] (.cons rfl (.cons rfl .nil)) ?_
          repeat refine J.seq ?_
          refine J.ret ?_
          repeat (first | refine JX.ret_pass ?_ | refine JX.ret_block ?_)
          exact JX.retC1is rfl rfl sz_api_Value HasOwn.mem rfl rfl (by rw [fk_no ht75]) (by rw [fk_no ht75])
      ·
        try simp only [decide_eq_true_eq, decide_eq_false_iff_not] at ht31
        repeat refine J.seq ?_
        refine J.reg0 hmx (by kernel_rfl) (by kernel_rfl) ?_
        refine RT.t (ob_fieldAddr fo_api_Value_0 rfl) ?_
        refine RT.t (ob_ld1 sz_int rfl rfl) ?_
        refine RT.t (ob_eql rfl rfl) ?_
        refine RT.t (ob_move rfl) ?_
        refine RT.g rfl rfl rfl (fun hg => ob_move (.inl rfl)) ?_
        refine RT.g rfl rfl rfl (fun hg => ob_len un_sl_uint8 (.inr ⟨_, rfl, fun h => h⟩)) ?_
        refine RT.g rfl rfl rfl (fun hg => ob_geq (.inr ⟨_, rfl, fun h => h⟩) (.inl rfl)) ?_
        refine RT.t (ob_pickAnd rfl rfl rfl id) ?_
        refine RT.t (ob_assign rfl) ?_
        refine RT.nil ?_
        refine FinS.nil0 ?_
        repeat (first | refine JX.next ?_ | refine JX.normal_block ?_)
        refine J.sel [0, 2, 4, 45] (.cons rfl (.cons rfl (.cons rfl (.cons rfl .nil)))) ?_
        repeat refine J.seq ?_
        refine J.cond rfl (fun ht45 => ?_) (fun ht45 => ?_)
        ·
          try simp only [decide_eq_true_eq, decide_eq_false_iff_not] at ht45
          have h3 : 3 ≤ l.length := by have h := (and_split2 ht45).2; simp at h; omega
          have hcb := Lib.countB_le (⟨#[0, 255]⟩ : ByteArray) (by decide) _ (bl ((l.drop 1).take (l.length - 3))) (Nat.le_refl _)
          have hsz : (bl ((l.drop 1).take (l.length - 3))).size ≤ l.length := by rw [bl_size, List.length_take, List.length_drop]; omega
          refine J.fact (RowG bC 1 ((l.drop 1).take (l.length - 3)) (adS a 1 cap 1) (l.length - 2 - 1)) (fun E w hF _ => fun w1 hk => by rw [show l.length - 2 - 1 = l.length - 3 by omega]; exact rowG_part (hF (RowG bC 1 l a l.length) (by repeat (first | exact List.mem_cons_self | apply List.mem_cons_of_mem)) w1 hk) hlc 1 (l.length - 3) (by omega)) ?_
          repeat refine J.seq ?_
          refine J.plain ?_
          refine JO.t (ob_move rfl) rfl ?_
          refine JO.t (ob_move rfl) rfl ?_
          refine JO.t (ob_len un_sl_uint8 rfl) rfl ?_
          refine JO.t (ob_subc (cc := ((l.length - 2 : Nat) : Int)) rfl rfl (by omega) (by omega) (by omega)) rfl ?_
          refine JO.t (ob_sliceLH un_sl_uint8 el_sl_uint8 rfl rfl rfl (by omega) (by omega) (by omega)) rfl ?_
          refine JO.t (ob_str un_sl_uint8 un_uint8 un_string rfl (by repeat (first | exact List.mem_cons_self | apply List.mem_cons_of_mem))) rfl ?_
          refine JO.t (ob_callF rfl (c_strings_ReplaceAll (bl ((l.drop 1).take (l.length - 3))) ⟨#[0, 255]⟩ ⟨#[0]⟩ (by decide) (by omega) (by have : (⟨#[0]⟩ : ByteArray).size = 1 := rfl; rw [this]; omega)) (by simp) (.one rfl (.one rfl (.one rfl .nil)))) rfl ?_
          refine JO.t (ob_fieldAddr fo_api_Value_2 rfl) rfl ?_
          refine JO.m (obm_storeF (cs' := [_, _, _]) rfl rfl (by repeat (first | exact .here | apply Upd.there)) rfl rfl rfl rfl ss_string) (by rfl) ?_
          refine JO.nil ?_
          repeat (first | refine JX.next ?_ | refine JX.normal_block ?_)
          refine J.sel [0, 2, 4] (.cons rfl (.cons rfl (.cons rfl .nil))) ?_
          have hc := (show candA l = _ by unfold candA; rw [if_neg (by rw [ht16]; simp), if_neg (by rw [ht31]; simp), if_pos ht45])
          refine J.coerO (e := ty_api_Value) (b := b4) (T' := .is (.agg #[.int .i64 (candA l).k, .int .i64 (candA l).n, .string (candA l).s])) (by repeat (first | exact .here | apply Upd.there)) (Sub.isEq (by first | (rw [hc]; done) | (rw [hc]; rfl))) ?_
          repeat refine J.seq ?_
          refine J.plain ?_
          refine JO.t (ob_ldN (cs := [_, _, _]) sz_api_Value rfl rfl rfl) rfl ?_
          refine JO.t (ob_callF rfl (c_value_Key (candA l) (candA_rng l)) (by simp) (.one rfl .nil)) rfl ?_
          refine JO.t (ob_move rfl) rfl ?_
          refine JO.t (ob_extract0 rfl) rfl ?_
          refine JO.t (ob_extract1 rfl) rfl ?_
          refine JO.t (ob_assign rfl) rfl ?_
          refine JO.t (ob_assign rfl) rfl ?_
          refine JO.nil ?_
          repeat (first | refine JX.next ?_ | refine JX.normal_block ?_)
          refine J.sel [0, 2, 4, 5, 6] (.cons rfl (.cons rfl (.cons rfl (.cons rfl (.cons rfl .nil))))) ?_
          refine J.openSlC (s := 5) rfl (fun a5 n5 c5 q5 o5 hl5 ha5 hc5 => ?_)
          repeat refine J.seq ?_
          refine J.reg0 hmx (by kernel_rfl) (by kernel_rfl) ?_
          refine RT.t (ob_move rfl) ?_
          refine RT.t (ob_neq rfl rfl) ?_
          refine RT.t (ob_move rfl) ?_
          refine RT.g rfl rfl rfl (fun hg => ob_move (.inl rfl)) ?_
          refine RT.g rfl rfl rfl (fun hg => ob_str un_sl_uint8 un_uint8 un_string (.inr ⟨_, rfl, fun h => h⟩) (by repeat (first | exact List.mem_cons_self | apply List.mem_cons_of_mem))) ?_
          refine RT.g rfl rfl rfl (fun hg => ob_move (.inl rfl)) ?_
          refine RT.g rfl rfl rfl (fun hg => ob_str un_sl_uint8 un_uint8 un_string (.inr ⟨_, rfl, fun h => h⟩) (by repeat (first | exact List.mem_cons_self | apply List.mem_cons_of_mem))) ?_
          refine RT.g rfl rfl rfl (fun hg => ob_sneq (.inr ⟨_, rfl, fun h => h⟩) (.inr ⟨_, rfl, fun h => h⟩)) ?_
          refine RT.t (ob_pickOr rfl rfl rfl id) ?_
          refine RT.nil ?_
          refine FinS.nil0 ?_
          repeat (first | refine JX.next ?_ | refine JX.normal_block ?_)
          refine J.sel [2, 4, 75] (.cons rfl (.cons rfl (.cons rfl .nil))) ?_
          repeat refine J.seq ?_
          refine J.cond rfl (fun ht75 => ?_) (fun ht75 => ?_)
          ·
            try simp only [decide_eq_true_eq, decide_eq_false_iff_not] at ht75
            repeat refine J.seq ?_
            refine J.plain ?_
            refine JO.t (ob_build (cs := [_, _, _]) sh_api_Value .nil rfl rfl) rfl ?_
            refine JO.m (obm_store rfl rfl (by repeat (first | exact .here | apply Upd.there)) (by first | exact cnt_is rfl rfl | exact cnt_ex) (by first | exact cnt_is rfl rfl | exact cnt_ex | exact cnt_aggO) ss_api_Value) (by rfl) ?_
            refine JO.t (ob_assign rfl) rfl ?_
            refine JO.nil ?_
            repeat (first | refine JX.next ?_ | refine JX.normal_block ?_)
            refine J.sel [2, 3] (.cons rfl (.cons rfl .nil)) ?_
            repeat refine J.seq ?_
            refine J.ret ?_
            repeat (first | refine JX.ret_pass ?_ | refine JX.ret_block ?_)
            exact JX.retC1is rfl rfl sz_api_Value HasOwn.mem rfl rfl (by rw [fk_yes ht75]) (by rw [fk_yes ht75])
          ·
            try simp only [decide_eq_true_eq, decide_eq_false_iff_not] at ht75
            refine J.skip ?_
            repeat (first | refine JX.next ?_ | refine JX.normal_block ?_)
            repeat refine J.seq ?_
            refine J.plain ?_
            refine JO.t (ob_ldN (cs := [_, _, _]) sz_api_Value rfl rfl rfl) rfl ?_
            refine JO.m (obm_store rfl rfl (by repeat (first | exact .here | apply Upd.there)) (by first | exact cnt_is rfl rfl | exact cnt_ex) (by first | exact cnt_is rfl rfl | exact cnt_ex | exact cnt_aggO) ss_api_Value) (by rfl) ?_
            refine JO.t (ob_assign rfl) rfl ?_
            refine JO.nil ?_
            repeat (first | refine JX.next ?_ | refine JX.normal_block ?_)
            refine J.sel [2, 3] (.cons rfl (.cons rfl .nil)) ?_
            repeat refine J.seq ?_
            refine J.ret ?_
            repeat (first | refine JX.ret_pass ?_ | refine JX.ret_block ?_)
            exact JX.retC1is rfl rfl sz_api_Value HasOwn.mem rfl rfl (by rw [fk_no ht75]) (by rw [fk_no ht75])
        ·
          try simp only [decide_eq_true_eq, decide_eq_false_iff_not] at ht45
          refine J.skip ?_
          repeat (first | refine JX.next ?_ | refine JX.normal_block ?_)
          have hc := (show candA l = _ by unfold candA; rw [if_neg (by rw [ht16]; simp), if_neg (by rw [ht31]; simp), if_neg (by rw [ht45]; simp)])
          refine J.coerO (e := ty_api_Value) (b := b4) (T' := .is (.agg #[.int .i64 (candA l).k, .int .i64 (candA l).n, .string (candA l).s])) (by repeat (first | exact .here | apply Upd.there)) (Sub.isEq (by first | (rw [hc]; done) | (rw [hc]; rfl))) ?_
          repeat refine J.seq ?_
          refine J.plain ?_
          refine JO.t (ob_ldN (cs := [_, _, _]) sz_api_Value rfl rfl rfl) rfl ?_
          refine JO.t (ob_callF rfl (c_value_Key (candA l) (candA_rng l)) (by simp) (.one rfl .nil)) rfl ?_
          refine JO.t (ob_move rfl) rfl ?_
          refine JO.t (ob_extract0 rfl) rfl ?_
          refine JO.t (ob_extract1 rfl) rfl ?_
          refine JO.t (ob_assign rfl) rfl ?_
          refine JO.t (ob_assign rfl) rfl ?_
          refine JO.nil ?_
          repeat (first | refine JX.next ?_ | refine JX.normal_block ?_)
          refine J.sel [0, 2, 4, 5, 6] (.cons rfl (.cons rfl (.cons rfl (.cons rfl (.cons rfl .nil))))) ?_
          refine J.openSlC (s := 5) rfl (fun a5 n5 c5 q5 o5 hl5 ha5 hc5 => ?_)
          repeat refine J.seq ?_
          refine J.reg0 hmx (by kernel_rfl) (by kernel_rfl) ?_
          refine RT.t (ob_move rfl) ?_
          refine RT.t (ob_neq rfl rfl) ?_
          refine RT.t (ob_move rfl) ?_
          refine RT.g rfl rfl rfl (fun hg => ob_move (.inl rfl)) ?_
          refine RT.g rfl rfl rfl (fun hg => ob_str un_sl_uint8 un_uint8 un_string (.inr ⟨_, rfl, fun h => h⟩) (by repeat (first | exact List.mem_cons_self | apply List.mem_cons_of_mem))) ?_
          refine RT.g rfl rfl rfl (fun hg => ob_move (.inl rfl)) ?_
          refine RT.g rfl rfl rfl (fun hg => ob_str un_sl_uint8 un_uint8 un_string (.inr ⟨_, rfl, fun h => h⟩) (by repeat (first | exact List.mem_cons_self | apply List.mem_cons_of_mem))) ?_
          refine RT.g rfl rfl rfl (fun hg => ob_sneq (.inr ⟨_, rfl, fun h => h⟩) (.inr ⟨_, rfl, fun h => h⟩)) ?_
          refine RT.t (ob_pickOr rfl rfl rfl id) ?_
          refine RT.nil ?_
          refine FinS.nil0 ?_
          repeat (first | refine JX.next ?_ | refine JX.normal_block ?_)
          refine J.sel [2, 4, 75] (.cons rfl (.cons rfl (.cons rfl .nil))) ?_
          repeat refine J.seq ?_
          refine J.cond rfl (fun ht75 => ?_) (fun ht75 => ?_)
          ·
            try simp only [decide_eq_true_eq, decide_eq_false_iff_not] at ht75
            repeat refine J.seq ?_
            refine J.plain ?_
            refine JO.t (ob_build (cs := [_, _, _]) sh_api_Value .nil rfl rfl) rfl ?_
            refine JO.m (obm_store rfl rfl (by repeat (first | exact .here | apply Upd.there)) (by first | exact cnt_is rfl rfl | exact cnt_ex) (by first | exact cnt_is rfl rfl | exact cnt_ex | exact cnt_aggO) ss_api_Value) (by rfl) ?_
            refine JO.t (ob_assign rfl) rfl ?_
            refine JO.nil ?_
            repeat (first | refine JX.next ?_ | refine JX.normal_block ?_)
            refine J.sel [2, 3] (.cons rfl (.cons rfl .nil)) ?_
            repeat refine J.seq ?_
            refine J.ret ?_
            repeat (first | refine JX.ret_pass ?_ | refine JX.ret_block ?_)
            exact JX.retC1is rfl rfl sz_api_Value HasOwn.mem rfl rfl (by rw [fk_yes ht75]) (by rw [fk_yes ht75])
          ·
            try simp only [decide_eq_true_eq, decide_eq_false_iff_not] at ht75
            refine J.skip ?_
            repeat (first | refine JX.next ?_ | refine JX.normal_block ?_)
            repeat refine J.seq ?_
            refine J.plain ?_
            refine JO.t (ob_ldN (cs := [_, _, _]) sz_api_Value rfl rfl rfl) rfl ?_
            refine JO.m (obm_store rfl rfl (by repeat (first | exact .here | apply Upd.there)) (by first | exact cnt_is rfl rfl | exact cnt_ex) (by first | exact cnt_is rfl rfl | exact cnt_ex | exact cnt_aggO) ss_api_Value) (by rfl) ?_
            refine JO.t (ob_assign rfl) rfl ?_
            refine JO.nil ?_
            repeat (first | refine JX.next ?_ | refine JX.normal_block ?_)
            refine J.sel [2, 3] (.cons rfl (.cons rfl .nil)) ?_
            repeat refine J.seq ?_
            refine J.ret ?_
            repeat (first | refine JX.ret_pass ?_ | refine JX.ret_block ?_)
            exact JX.retC1is rfl rfl sz_api_Value HasOwn.mem rfl rfl (by rw [fk_no ht75]) (by rw [fk_no ht75])
end Go.Proofs.YtlccnpmhmdoapaaDoor
