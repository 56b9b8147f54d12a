/- The document on values: tuples written; every two values. No condition. -/
import Derived.Test.YtlccnpmhmdoapaaDoorXP1
import Derived.Test.YtlccnpmhmdoapaaDoorXG4
set_option maxRecDepth 20000
namespace Go.Proofs.YtlccnpmhmdoapaaDoor
open Go Go.Vc
open Go.Vl
theorem c_law01_ValueAll (v w : V3) (hv : I64 v.n) : CallF Tryd.prog f_law01_ValueAll [GF, TF] [.is (.agg #[.int .i64 v.k, .int .i64 v.n, .string v.s]), .is (.agg #[.int .i64 w.k, .int .i64 w.n, .string w.s])] (.is (.bool true)) :=
CallF.of (fn := Tryd.f3) Tryd.func3 (n := 54) rfl rfl rfl (fun _ _ => by kernel_rfl) fun E W => by
  repeat refine J.seq ?_
  refine J.plain ?_
  refine JO.box rfl rfl fun b2 => ?_
  refine JO.box rfl rfl fun b3 => ?_
  refine JO.t (ob_assign rfl) rfl ?_
  refine JO.nil ?_
  repeat (first | refine JX.next ?_ | refine JX.normal_block ?_)
  refine J.sel [2, 3] (.cons rfl (.cons rfl .nil)) ?_
  repeat refine J.seq ?_
  refine J.plain ?_
  refine JO.t (ob_callF rfl (c_law01_awake) (by simp) .nil) rfl ?_
  refine JO.t (ob_not rfl) rfl ?_
  refine JO.nil ?_
  repeat (first | refine JX.next ?_ | refine JX.normal_block ?_)
  refine J.sel [2, 3, 10] (.cons rfl (.cons rfl (.cons rfl .nil))) ?_
  repeat refine J.seq ?_
  refine J.cond rfl (fun ht10 => ?_) (fun ht10 => ?_)
  ·
    try simp only [decide_eq_true_eq, decide_eq_false_iff_not] at ht10
    repeat refine J.seq ?_
    refine J.plain ?_
    refine JO.t (ob_assign rfl) rfl ?_
    refine JO.nil ?_
    repeat (first | refine JX.next ?_ | refine JX.normal_block ?_)
    refine J.sel [4] (.cons rfl .nil) ?_
    repeat refine J.seq ?_
    refine J.ret ?_
    repeat (first | refine JX.ret_pass ?_ | refine JX.ret_block ?_)
    exact JX.ret1is rfl rfl (by simp at ht10)
  ·
    try simp only [decide_eq_true_eq, decide_eq_false_iff_not] at ht10
    refine J.skip ?_
    repeat (first | refine JX.next ?_ | refine JX.normal_block ?_)
    repeat refine J.seq ?_
    refine J.plain ?_
    refine JO.t (ob_ldN (cs := [_, _, _]) sz_api_Value rfl rfl rfl) rfl ?_
    refine JO.t (ob_callF rfl (c_value_Key v hv) (by simp) (.one rfl .nil)) rfl ?_
    refine JO.t (ob_move rfl) rfl ?_
    refine JO.t (ob_extract0 rfl) rfl ?_
    refine JO.t (ob_extract1 rfl) rfl ?_
    refine JO.t (ob_assign rfl) rfl ?_
    refine JO.t (ob_assign rfl) rfl ?_
    refine JO.nil ?_
    repeat (first | refine JX.next ?_ | refine JX.normal_block ?_)
    refine J.sel [2, 3, 5, 6] (.cons rfl (.cons rfl (.cons rfl (.cons rfl .nil)))) ?_
    repeat refine J.seq ?_
    refine J.plain ?_
    refine JO.t (ob_ldN (cs := [_, _, _]) sz_api_Value rfl rfl rfl) rfl ?_
    refine JO.t (ob_call rfl (c_ref01_Key v hv) (.one rfl .nil)) rfl ?_
    refine JO.t (ob_move rfl) rfl ?_
    refine JO.t (ob_extract0 rfl) rfl ?_
    refine JO.t (ob_extract1 rfl) rfl ?_
    refine JO.t (ob_assign rfl) rfl ?_
    refine JO.t (ob_assign rfl) rfl ?_
    refine JO.nil ?_
    repeat (first | refine JX.next ?_ | refine JX.normal_block ?_)
    refine J.sel [2, 3, 5, 6, 7, 8] (.cons rfl (.cons rfl (.cons rfl (.cons rfl (.cons rfl (.cons rfl .nil)))))) ?_
    refine J.openSlC (s := 5) rfl (fun a1 n1 c1 q1 o1 hl1 ha1 hc1 => ?_)
    refine J.openSlC (s := 7) rfl (fun a2 n2 c2 q2 o2 hl2 ha2 hc2 => ?_)
    repeat refine J.seq ?_
    refine J.reg0 hmx (by kernel_rfl) (by kernel_rfl) ?_
    refine RT.t (ob_ldN (cs := [_, _, _]) sz_api_Value rfl rfl rfl) ?_
    refine RT.t (ob_call rfl (c_value_Ok v) (.one rfl .nil)) ?_
    refine RT.t (ob_ldN (cs := [_, _, _]) sz_api_Value rfl rfl rfl) ?_
    refine RT.t (ob_call rfl (c_ref01_Ok v) (.one rfl .nil)) ?_
    refine RT.t (ob_beql un_bool rfl rfl) ?_
    refine RT.t (ob_move rfl) ?_
    refine RT.g rfl rfl rfl (fun hg => ob_ldN (cs := [_, _, _]) sz_api_Value (.inl rfl) rfl rfl) ?_
    refine RT.g rfl rfl rfl (fun hg => ob_ldN (cs := [_, _, _]) sz_api_Value (.inl rfl) rfl rfl) ?_
    refine RT.g rfl rfl rfl (fun hg => ob_call (.inl rfl) (c_value_Compare v w) (.one (.inr ⟨_, rfl, fun h => h⟩) (.one (.inr ⟨_, rfl, fun h => h⟩) .nil))) ?_
    refine RT.g rfl rfl rfl (fun hg => ob_ldN (cs := [_, _, _]) sz_api_Value (.inl rfl) rfl rfl) ?_
    refine RT.g rfl rfl rfl (fun hg => ob_ldN (cs := [_, _, _]) sz_api_Value (.inl rfl) rfl rfl) ?_
    refine RT.g rfl rfl rfl (fun hg => ob_call (.inl rfl) (c_ref01_Compare v w) (.one (.inr ⟨_, rfl, fun h => h⟩) (.one (.inr ⟨_, rfl, fun h => h⟩) .nil))) ?_
    refine RT.g rfl rfl rfl (fun hg => ob_eql (.inr ⟨_, rfl, fun h => h⟩) (.inr ⟨_, rfl, fun h => h⟩)) ?_
    refine RT.t (ob_pickAnd rfl rfl rfl id) ?_
    refine RT.t (ob_move rfl) ?_
    refine RT.g rfl rfl rfl (fun hg => ob_move (.inl rfl)) ?_
    refine RT.g rfl rfl rfl (fun hg => ob_str un_sl_uint8 un_uint8 un_string (.inr ⟨_, rfl, fun h => h⟩) (by repeat (first | exact List.mem_cons_self | apply List.mem_cons_of_mem))) ?_
    refine RT.g rfl rfl rfl (fun hg => ob_move (.inl rfl)) ?_
    refine RT.g rfl rfl rfl (fun hg => ob_str un_sl_uint8 un_uint8 un_string (.inr ⟨_, rfl, fun h => h⟩) (by repeat (first | exact List.mem_cons_self | apply List.mem_cons_of_mem))) ?_
    refine RT.g rfl rfl rfl (fun hg => ob_seql (.inr ⟨_, rfl, fun h => h⟩) (.inr ⟨_, rfl, fun h => h⟩)) ?_
    refine RT.t (ob_pickAnd rfl rfl rfl id) ?_
    refine RT.t (ob_move rfl) ?_
    refine RT.g rfl rfl rfl (fun hg => ob_move (.inl rfl)) ?_
    refine RT.g rfl rfl rfl (fun hg => ob_move (.inl rfl)) ?_
    refine RT.g rfl rfl rfl (fun hg => ob_eql (.inr ⟨_, rfl, fun h => h⟩) (.inr ⟨_, rfl, fun h => h⟩)) ?_
    refine RT.t (ob_pickAnd rfl rfl rfl id) ?_
    refine RT.t (ob_move rfl) ?_
    refine RT.g rfl rfl rfl (fun hg => ob_ldN (cs := [_, _, _]) sz_api_Value (.inl rfl) rfl rfl) ?_
    refine RT.g rfl rfl rfl (fun hg => ob_callF (.inl rfl) (c_value_Show v (by exact hv.1) (by have := hv.2; omega)) (by simp) (.one (.inr ⟨_, rfl, fun h => h⟩) .nil)) ?_
    refine RT.g rfl rfl rfl (fun hg => ob_ldN (cs := [_, _, _]) sz_api_Value (.inl rfl) rfl rfl) ?_
    refine RT.g rfl rfl rfl (fun hg => ob_call (.inl rfl) (c_ref01_Show v hv) (.one (.inr ⟨_, rfl, fun h => h⟩) .nil)) ?_
    refine RT.g rfl rfl rfl (fun hg => ob_seql (.inr ⟨_, rfl, fun h => h⟩) (.inr ⟨_, rfl, fun h => h⟩)) ?_
    refine RT.t (ob_pickAnd rfl rfl rfl id) ?_
    refine RT.t (ob_assign rfl) ?_
    refine RT.nil ?_
    refine FinS.nil0 ?_
    repeat (first | refine JX.next ?_ | refine JX.normal_block ?_)
    refine J.sel [4] (.cons rfl .nil) ?_
    repeat refine J.seq ?_
    refine J.ret ?_
    repeat (first | refine JX.ret_pass ?_ | refine JX.ret_block ?_)
    exact JX.ret1is rfl rfl (by rw [seq_self, seq_self]; simp)
theorem c_ref01_Put (vs : List V3) (hr : ∀ v ∈ vs, I64 v.n) : CallTy Tryd.prog f_ref01_Put [.rep (SlG V3.cells 3 vs)] (.tup2 (.rep (SlC bC 1 (putLs vs).1)) (.is (.int .i64 (putLs vs).2))) :=
  CallTy.of (fn := Tryd.f27) Tryd.func27 (n := 65) rfl rfl rfl (fun _ _ => by kernel_rfl) fun E W => by
  refine J.openSl (s := 0) rfl (fun a len cap b o hlen ha0 => ?_)
  subst hlen
  repeat refine J.seq ?_
  refine J.plain ?_
  refine JO.t (ob_assign rfl) rfl ?_
  refine JO.t (ob_assign rfl) rfl ?_
  refine JO.nil ?_
  repeat (first | refine JX.next ?_ | refine JX.normal_block ?_)
  refine J.sel [0] (.cons rfl .nil) ?_
  repeat refine J.seq ?_
  refine J.plain ?_
  refine JO.t (ob_move rfl) rfl ?_
  refine JO.t (ob_len un_sl_api_Value rfl) rfl ?_
  refine JO.t (ob_gtr rfl rfl) rfl ?_
  refine JO.nil ?_
  repeat (first | refine JX.next ?_ | refine JX.normal_block ?_)
  refine J.sel [0, 9] (.cons rfl (.cons rfl .nil)) ?_
  repeat refine J.seq ?_
  refine J.cond rfl (fun ht9 => ?_) (fun ht9 => ?_)
  ·
    try simp only [decide_eq_true_eq, decide_eq_false_iff_not] at ht9
    have hxe := put_many (vs := vs) (by omega)
    repeat refine J.seq ?_
    refine J.plain ?_
    refine JO.t (ob_assign rfl) rfl ?_
    refine JO.t (ob_assign rfl) rfl ?_
    refine JO.nil ?_
    repeat (first | refine JX.next ?_ | refine JX.normal_block ?_)
    refine J.sel [2, 3] (.cons rfl (.cons rfl .nil)) ?_
    repeat refine J.seq ?_
    refine J.ret ?_
    repeat (first | refine JX.ret_pass ?_ | refine JX.ret_block ?_)
    exact JX.ret2sub rfl rfl rfl (by rw [hxe]; exact Sub.slNilC) rfl (Sub.isEq (by rw [hxe]))
  ·
    try simp only [decide_eq_true_eq, decide_eq_false_iff_not] at ht9
    refine J.skip ?_
    repeat (first | refine JX.next ?_ | refine JX.normal_block ?_)
    have hl : vs.length ≤ 255 := by omega
    repeat refine J.seq ?_
    refine J.plain ?_
    refine JO.t (ob_move rfl) rfl ?_
    refine JO.t (ob_len un_sl_api_Value rfl) rfl ?_
    refine JO.t (ob_convIIe (cc := ((UInt8.ofNat vs.length).toNat : Int)) ⟨_, un_int⟩ un_uint8 rfl (byte_wrap (Int.natCast_nonneg _) (by omega))) rfl ?_
    refine JO.buildOwn (cs := [_]) sl_sl_uint8 (by omega) (by omega) (.cons rfl .nil) rfl rfl rfl rfl (fun b13 => ?_)
    refine JO.t (ob_assign rfl) rfl ?_
    refine JO.nil ?_
    repeat (first | refine JX.next ?_ | refine JX.normal_block ?_)
    refine J.sel [0, 4] (.cons rfl (.cons rfl .nil)) ?_
    repeat refine J.seq ?_
    refine J.plain ?_
    refine JO.t (ob_assign rfl) rfl ?_
    refine JO.nil ?_
    repeat (first | refine JX.next ?_ | refine JX.normal_block ?_)
    refine J.sel [0, 4, 5] (.cons rfl (.cons rfl (.cons rfl .nil))) ?_
    repeat refine J.seq ?_
    refine J.block ?_
    repeat refine J.seq ?_
    refine J.loopG (α := Nat × List UInt8 × Option (Nat × List Value) × Nat) (fun z => [(0, .is (.slice a vs.length cap)), (4, .is (sliceO z.2.2.1 z.2.1.length z.2.2.2)), (5, .is (.int .i64 (z.1 : Nat)))]) (fun z => ownO z.2.2.1 ty_uint8 []) (fun z => fun _ => True) (fun z => z.1 ≤ vs.length ∧ z.2.1 = UInt8.ofNat vs.length :: (vs.take z.1).flatMap putV ∧ Grows bC 1 z.2.1 z.2.2.1 z.2.2.2 ∧ (∀ v ∈ vs.take z.1, okV v = true) ∧ z.2.1.length ≤ 1 + 66 * z.1) (fun z => vs.length - z.1) (0, [UInt8.ofNat vs.length], some (b13, bC (UInt8.ofNat vs.length)), 1) [0, 4, 5] (.cons rfl (.cons rfl (.cons rfl .nil))) rfl (fun _ => trivial) ⟨by omega, rfl, ⟨rfl, Nat.le_refl _, rfl⟩, (fun _ h => by simp at h), by simp⟩ fun ⟨i, xs, st, cp⟩ ⟨hi, hx, hG, ha, hle⟩ => ?_
    try dsimp only
    try dsimp only at xs
    try dsimp only at st
    try dsimp only at cp
    try dsimp only at hi
    try dsimp only at hx
    try dsimp only at hG
    try dsimp only at ha
    try dsimp only at hle
    repeat refine J.seq ?_
    refine J.plain ?_
    refine JO.t (ob_move rfl) rfl ?_
    refine JO.t (ob_move rfl) rfl ?_
    refine JO.t (ob_len un_sl_api_Value rfl) rfl ?_
    refine JO.t (ob_lss rfl rfl) rfl ?_
    refine JO.nil ?_
    repeat (first | refine JX.next ?_ | refine JX.normal_block ?_)
    refine J.sel [0, 4, 5, 17] (.cons rfl (.cons rfl (.cons rfl (.cons rfl .nil)))) ?_
    repeat refine J.seq ?_
    refine J.cond rfl (fun ht17 => ?_) (fun ht17 => ?_)
    ·
      try simp only [decide_eq_true_eq, decide_eq_false_iff_not] at ht17
      refine J.skip ?_
      repeat (first | refine JX.next ?_ | refine JX.normal_block ?_)
      repeat refine J.seq ?_
      refine J.block ?_
      have hlt : i < vs.length := by omega
      repeat refine J.seq ?_
      refine J.plain ?_
      refine JO.t (ob_move rfl) rfl ?_
      refine JO.t (ob_move rfl) rfl ?_
      refine JO.t (ob_indexAddr el_sl_api_Value rfl (ha0 (by omega)) rfl (by omega) (by omega)) rfl ?_
      refine JO.t (ob_loadG (enc := V3.cells) (sz := 3) (len := vs.length) (i := i) (y := (vs.getD i v3D)) (cs := V3.cells (vs.getD i v3D)) sz_api_Value rfl (by repeat (first | exact List.mem_cons_self | apply List.mem_cons_of_mem)) (ha0 (by omega)) (v3_get (by omega)) (by omega) rfl) rfl ?_
      refine JO.alloc zo_api_Value rfl fun b6 => ?_
      refine JO.m (obm_store rfl rfl (by repeat (first | exact .here | apply Upd.there)) (by first | exact cnt_is rfl rfl | exact cnt_ex) (by first | exact cnt_is rfl rfl | exact cnt_ex | exact cnt_aggO) ss_api_Value) (by rfl) ?_
      refine JO.nil ?_
      repeat (first | refine JX.next ?_ | refine JX.normal_block ?_)
      refine J.sel [0, 4, 5, 6] (.cons rfl (.cons rfl (.cons rfl (.cons rfl .nil)))) ?_
      repeat refine J.seq ?_
      refine J.plain ?_
      refine JO.t (ob_ldN (cs := [_, _, _]) sz_api_Value rfl rfl rfl) rfl ?_
      refine JO.t (ob_call rfl (c_ref01_Ok (vs.getD i v3D)) (.one rfl .nil)) rfl ?_
      refine JO.t (ob_not rfl) rfl ?_
      refine JO.nil ?_
      repeat (first | refine JX.next ?_ | refine JX.normal_block ?_)
      refine J.sel [0, 4, 5, 6, 26] (.cons rfl (.cons rfl (.cons rfl (.cons rfl (.cons rfl .nil))))) ?_
      repeat refine J.seq ?_
      refine J.cond rfl (fun ht26 => ?_) (fun ht26 => ?_)
      ·
        try simp only [decide_eq_true_eq, decide_eq_false_iff_not] at ht26
        have hxe := put_no hl (v3_mem hlt) (by simpa using ht26)
        repeat refine J.seq ?_
        refine J.plain ?_
        refine JO.t (ob_assign rfl) rfl ?_
        refine JO.t (ob_assign rfl) rfl ?_
        refine JO.nil ?_
        repeat (first | refine JX.next ?_ | refine JX.normal_block ?_)
        refine J.sel [2, 3] (.cons rfl (.cons rfl .nil)) ?_
        repeat refine J.seq ?_
        refine J.ret ?_
        repeat (first | refine JX.ret_pass ?_ | refine JX.ret_block ?_)
        exact JX.ret2sub rfl rfl rfl (by rw [hxe]; exact Sub.slNilC) rfl (Sub.isEq (by rw [hxe]))
      ·
        try simp only [decide_eq_true_eq, decide_eq_false_iff_not] at ht26
        refine J.skip ?_
        repeat (first | refine JX.next ?_ | refine JX.normal_block ?_)
        have hok : okV (vs.getD i v3D) = true := by simpa using ht26
        have hk := ok_k hok
        have hs64 := ok_s3 hok
        have hz := len_sz (vs.getD i v3D).s
        repeat refine J.seq ?_
        refine J.plain ?_
        refine JO.t (ob_move rfl) rfl ?_
        refine JO.t (ob_fieldAddr fo_api_Value_0 rfl) rfl ?_
        refine JO.t (ob_ld1 sz_int rfl rfl) rfl ?_
        refine JO.t (ob_convIIe ⟨_, un_int⟩ un_uint8 rfl (byte_wrap hk.1 (by omega))) rfl ?_
        refine JO.t (ob_buildSlice (cs := [_]) sl_sl_uint8 (by omega) (by omega) (.cons rfl .nil) rfl rfl rfl) rfl ?_
        refine JO.apX ([UInt8.ofNat (vs.getD i v3D).k.toNat]) ap_sl_uint8 bC_len (by repeat (first | exact .here | apply Cx.past | apply Cx.there)) hG rfl rfl (fun L => src_new un_sl_uint8 rfl rfl) (by simp) (by simp <;> omega) (by simp <;> omega) rfl (fun st1 cp1 hG1 => ?_)
        try dsimp only
        refine JO.t (ob_assign rfl) rfl ?_
        refine JO.nil ?_
        repeat (first | refine JX.next ?_ | refine JX.normal_block ?_)
        refine J.sel [0, 4, 5, 6] (.cons rfl (.cons rfl (.cons rfl (.cons rfl .nil)))) ?_
        repeat refine J.seq ?_
        refine J.plain ?_
        refine JO.t (ob_fieldAddr fo_api_Value_0 rfl) rfl ?_
        refine JO.t (ob_ld1 sz_int rfl rfl) rfl ?_
        refine JO.nil ?_
        repeat (first | refine JX.next ?_ | refine JX.normal_block ?_)
        refine J.sel [0, 4, 5, 6, 34] (.cons rfl (.cons rfl (.cons rfl (.cons rfl (.cons rfl .nil))))) ?_
        repeat refine J.seq ?_
        refine J.block ?_
        repeat refine J.seq ?_
        refine J.plain ?_
        refine JO.t (ob_eql rfl rfl) rfl ?_
        refine JO.t (ob_assign rfl) rfl ?_
        refine JO.nil ?_
        repeat (first | refine JX.next ?_ | refine JX.normal_block ?_)
        refine J.sel [0, 4, 5, 6, 34, 35] (.cons rfl (.cons rfl (.cons rfl (.cons rfl (.cons rfl (.cons rfl .nil)))))) ?_
        repeat refine J.seq ?_
        refine J.cond rfl (fun ht35 => ?_) (fun ht35 => ?_)
        ·
          try simp only [decide_eq_true_eq, decide_eq_false_iff_not] at ht35
          repeat refine J.seq ?_
          refine J.plain ?_
          refine JO.t (ob_move rfl) rfl ?_
          refine JO.t (ob_fieldAddr fo_api_Value_1 rfl) rfl ?_
          refine JO.t (ob_ld1 sz_int64 rfl rfl) rfl ?_
          refine JO.t (ob_convIIe ⟨_, un_int64⟩ un_uint64 rfl (uns_wrap (vs.getD i v3D).n)) rfl ?_
          refine JO.t (ob_call rfl (c_ref01_Eight (unsN (vs.getD i v3D).n) (by have := uns_lt (vs.getD i v3D).n; rw [p256] at this; exact this)) (.one rfl .nil)) rfl ?_
          refine JO.apX (leN 8 (unsN (vs.getD i v3D).n)) ap_sl_uint8 bC_len (by repeat (first | exact .here | apply Cx.past | apply Cx.there)) hG1 rfl rfl (fun L => src_slC bC_len (by omega) bC_one un_sl_uint8) (by simp) (by simp [leN_len]; omega) (by simp [leN_len]; omega) rfl (fun st2 cp2 hG2 => ?_)
          try dsimp only
          refine JO.t (ob_assign rfl) rfl ?_
          refine JO.nil ?_
          repeat (first | refine JX.next ?_ | refine JX.normal_block ?_)
          refine J.sel [0, 4, 5] (.cons rfl (.cons rfl (.cons rfl .nil))) ?_
          repeat refine J.seq ?_
          refine J.plain ?_
          refine JO.t (ob_move rfl) rfl ?_
          refine JO.t (ob_addc (cc := ((i + 1 : Nat) : Int)) rfl rfl (by omega) (by omega) (by omega)) rfl ?_
          refine JO.t (ob_assign rfl) rfl ?_
          refine JO.nil ?_
          repeat refine JX.normal_block ?_
          refine JX.roundG (x := ⟨i, xs, st, cp⟩) (i + 1, (xs ++ [UInt8.ofNat (vs.getD i v3D).k.toNat]) ++ leN 8 (unsN (vs.getD i v3D).n), st2, cp2) ?_ ?_ [0, 4, 5] ?_ ?_ ?_ ?_
          · exact ⟨by omega, put_cons (i := i) hlt hx (by unfold putV putP; rw [if_pos ht35, List.append_assoc]; rfl), hG2, all_next hlt ha hok, by have hq := putV_len hok; unfold putV putP at hq; rw [if_pos ht35] at hq; simp [leN_len] at hq ⊢; omega⟩
          · exact (by simp only; omega)
          · exact (.cons rfl (.cons rfl (.cons rfl .nil)))
          · repeat (first | exact .all | exact .nil | refine Has.own (by repeat (first | exact .here | apply Tl.past | apply Tl.there)) ?_ | refine Has.cons (by repeat (first | exact .here | apply Pk.past | apply Pk.there)) ?_)
          · exact fun G hG => by repeat (first | exact hG | refine List.mem_cons_of_mem _ ?_)
          · exact fun _ _ _ => fun _ _ => trivial
        ·
          try simp only [decide_eq_true_eq, decide_eq_false_iff_not] at ht35
          repeat refine J.seq ?_
          refine J.plain ?_
          refine JO.t (ob_eql rfl rfl) rfl ?_
          refine JO.t (ob_assign rfl) rfl ?_
          refine JO.nil ?_
          repeat (first | refine JX.next ?_ | refine JX.normal_block ?_)
          refine J.sel [0, 4, 5, 6, 34, 43] (.cons rfl (.cons rfl (.cons rfl (.cons rfl (.cons rfl (.cons rfl .nil)))))) ?_
          repeat refine J.seq ?_
          refine J.cond rfl (fun ht43 => ?_) (fun ht43 => ?_)
          ·
            try simp only [decide_eq_true_eq, decide_eq_false_iff_not] at ht43
            repeat refine J.seq ?_
            refine J.plain ?_
            refine JO.t (ob_move rfl) rfl ?_
            refine JO.t (ob_fieldAddr fo_api_Value_1 rfl) rfl ?_
            refine JO.t (ob_ld1 sz_int64 rfl rfl) rfl ?_
            refine JO.t (ob_convIIe ⟨_, un_int64⟩ un_uint8 rfl (byte_wrap (ok_n2 hok ht43).1 (ok_n2 hok ht43).2)) rfl ?_
            refine JO.t (ob_buildSlice (cs := [_]) sl_sl_uint8 (by omega) (by omega) (.cons rfl .nil) rfl rfl rfl) rfl ?_
            refine JO.apX ([UInt8.ofNat (vs.getD i v3D).n.toNat]) ap_sl_uint8 bC_len (by repeat (first | exact .here | apply Cx.past | apply Cx.there)) hG1 rfl rfl (fun L => src_new un_sl_uint8 rfl rfl) (by simp) (by simp <;> omega) (by simp <;> omega) rfl (fun st2 cp2 hG2 => ?_)
            try dsimp only
            refine JO.t (ob_assign rfl) rfl ?_
            refine JO.nil ?_
            repeat (first | refine JX.next ?_ | refine JX.normal_block ?_)
            refine J.sel [0, 4, 5] (.cons rfl (.cons rfl (.cons rfl .nil))) ?_
            repeat refine J.seq ?_
            refine J.plain ?_
            refine JO.t (ob_move rfl) rfl ?_
            refine JO.t (ob_addc (cc := ((i + 1 : Nat) : Int)) rfl rfl (by omega) (by omega) (by omega)) rfl ?_
            refine JO.t (ob_assign rfl) rfl ?_
            refine JO.nil ?_
            repeat refine JX.normal_block ?_
            refine JX.roundG (x := ⟨i, xs, st, cp⟩) (i + 1, (xs ++ [UInt8.ofNat (vs.getD i v3D).k.toNat]) ++ [UInt8.ofNat (vs.getD i v3D).n.toNat], st2, cp2) ?_ ?_ [0, 4, 5] ?_ ?_ ?_ ?_
            · exact ⟨by omega, put_cons (i := i) hlt hx (by unfold putV putP; rw [if_neg (kn ht35), if_pos ht43, List.append_assoc]; rfl), hG2, all_next hlt ha hok, by have hq := putV_len hok; unfold putV putP at hq; simp; omega⟩
            · exact (by simp only; omega)
            · exact (.cons rfl (.cons rfl (.cons rfl .nil)))
            · repeat (first | exact .all | exact .nil | refine Has.own (by repeat (first | exact .here | apply Tl.past | apply Tl.there)) ?_ | refine Has.cons (by repeat (first | exact .here | apply Pk.past | apply Pk.there)) ?_)
            · exact fun G hG => by repeat (first | exact hG | refine List.mem_cons_of_mem _ ?_)
            · exact fun _ _ _ => fun _ _ => trivial
          ·
            try simp only [decide_eq_true_eq, decide_eq_false_iff_not] at ht43
            repeat refine J.seq ?_
            refine J.plain ?_
            refine JO.t (ob_eql rfl rfl) rfl ?_
            refine JO.t (ob_assign rfl) rfl ?_
            refine JO.nil ?_
            repeat (first | refine JX.next ?_ | refine JX.normal_block ?_)
            refine J.sel [0, 4, 5, 6, 51] (.cons rfl (.cons rfl (.cons rfl (.cons rfl (.cons rfl .nil))))) ?_
            repeat refine J.seq ?_
            refine J.cond rfl (fun ht51 => ?_) (fun ht51 => ?_)
            ·
              try simp only [decide_eq_true_eq, decide_eq_false_iff_not] at ht51
              repeat refine J.seq ?_
              refine J.plain ?_
              refine JO.t (ob_move rfl) rfl ?_
              refine JO.t (ob_fieldAddr fo_api_Value_2 rfl) rfl ?_
              refine JO.t (ob_ld1 sz_string rfl rfl) rfl ?_
              refine JO.t (ob_slen un_string rfl) rfl ?_
              refine JO.t (ob_convIIe (cc := ((UInt8.ofNat (vs.getD i v3D).s.size).toNat : Int)) ⟨_, un_int⟩ un_uint8 rfl (byte_wrap (Int.natCast_nonneg _) (by omega))) rfl ?_
              refine JO.t (ob_buildSlice (cs := [_]) sl_sl_uint8 (by omega) (by omega) (.cons rfl .nil) rfl rfl rfl) rfl ?_
              refine JO.apX ([UInt8.ofNat (vs.getD i v3D).s.size]) ap_sl_uint8 bC_len (by repeat (first | exact .here | apply Cx.past | apply Cx.there)) hG1 rfl rfl (fun L => src_new un_sl_uint8 rfl rfl) (by simp) (by simp <;> omega) (by simp <;> omega) rfl (fun st2 cp2 hG2 => ?_)
              try dsimp only
              refine JO.t (ob_assign rfl) rfl ?_
              refine JO.nil ?_
              repeat (first | refine JX.next ?_ | refine JX.normal_block ?_)
              refine J.sel [0, 4, 5, 6] (.cons rfl (.cons rfl (.cons rfl (.cons rfl .nil)))) ?_
              repeat refine J.seq ?_
              refine J.plain ?_
              refine JO.t (ob_move rfl) rfl ?_
              refine JO.t (ob_fieldAddr fo_api_Value_2 rfl) rfl ?_
              refine JO.t (ob_ld1 sz_string rfl rfl) rfl ?_
              refine JO.apX ((vs.getD i v3D).s.data.toList) ap_sl_uint8 bC_len (by repeat (first | exact .here | apply Cx.past | apply Cx.there)) hG2 rfl rfl (fun L => src_str un_string rfl) (by simp) (by simp only [List.length_append, List.length_cons, List.length_nil]; omega) (by simp only [List.length_append, List.length_cons, List.length_nil]; omega) rfl (fun st3 cp3 hG3 => ?_)
              try dsimp only
              refine JO.t (ob_assign rfl) rfl ?_
              refine JO.nil ?_
              repeat (first | refine JX.next ?_ | refine JX.normal_block ?_)
              refine J.sel [0, 4, 5] (.cons rfl (.cons rfl (.cons rfl .nil))) ?_
              repeat refine J.seq ?_
              refine J.plain ?_
              refine JO.t (ob_move rfl) rfl ?_
              refine JO.t (ob_addc (cc := ((i + 1 : Nat) : Int)) rfl rfl (by omega) (by omega) (by omega)) rfl ?_
              refine JO.t (ob_assign rfl) rfl ?_
              refine JO.nil ?_
              repeat refine JX.normal_block ?_
              refine JX.roundG (x := ⟨i, xs, st, cp⟩) (i + 1, ((xs ++ [UInt8.ofNat (vs.getD i v3D).k.toNat]) ++ [UInt8.ofNat (vs.getD i v3D).s.size]) ++ (vs.getD i v3D).s.data.toList, st3, cp3) ?_ ?_ [0, 4, 5] ?_ ?_ ?_ ?_
              · exact ⟨by omega, put_cons (i := i) hlt hx (by unfold putV putP; rw [if_neg (kn ht35), if_neg (kn ht43), if_pos ht51, List.append_assoc, List.append_assoc]; rfl), hG3, all_next hlt ha hok, by have hq := putV_len hok; unfold putV putP at hq; simp only [List.length_append, List.length_cons, List.length_nil]; omega⟩
              · exact (by simp only; omega)
              · exact (.cons rfl (.cons rfl (.cons rfl .nil)))
              · repeat (first | exact .all | exact .nil | refine Has.own (by repeat (first | exact .here | apply Tl.past | apply Tl.there)) ?_ | refine Has.cons (by repeat (first | exact .here | apply Pk.past | apply Pk.there)) ?_)
              · exact fun G hG => by repeat (first | exact hG | refine List.mem_cons_of_mem _ ?_)
              · exact fun _ _ _ => fun _ _ => trivial
            ·
              try simp only [decide_eq_true_eq, decide_eq_false_iff_not] at ht51
              refine J.skip ?_
              repeat (first | refine JX.next ?_ | refine JX.normal_block ?_)
              repeat refine J.seq ?_
              refine J.plain ?_
              refine JO.t (ob_move rfl) rfl ?_
              refine JO.t (ob_addc (cc := ((i + 1 : Nat) : Int)) rfl rfl (by omega) (by omega) (by omega)) rfl ?_
              refine JO.t (ob_assign rfl) rfl ?_
              refine JO.nil ?_
              repeat refine JX.normal_block ?_
              refine JX.roundG (x := ⟨i, xs, st, cp⟩) (i + 1, xs ++ [UInt8.ofNat (vs.getD i v3D).k.toNat], st1, cp1) ?_ ?_ [0, 4, 5] ?_ ?_ ?_ ?_
              · exact ⟨by omega, put_cons (i := i) hlt hx (by unfold putV putP; rw [if_neg (kn ht35), if_neg (kn ht43), if_neg (kn ht51)]), hG1, all_next hlt ha hok, by have hq := putV_len hok; unfold putV putP at hq; simp; omega⟩
              · exact (by simp only; omega)
              · exact (.cons rfl (.cons rfl (.cons rfl .nil)))
              · repeat (first | exact .all | exact .nil | refine Has.own (by repeat (first | exact .here | apply Tl.past | apply Tl.there)) ?_ | refine Has.cons (by repeat (first | exact .here | apply Pk.past | apply Pk.there)) ?_)
              · exact fun G hG => by repeat (first | exact hG | refine List.mem_cons_of_mem _ ?_)
              · exact fun _ _ _ => fun _ _ => trivial
    ·
      try simp only [decide_eq_true_eq, decide_eq_false_iff_not] at ht17
      repeat refine J.seq ?_
      refine J.exit ?_
      repeat (first | refine JX.hit ?_ | refine JX.miss rfl ?_ | refine JX.exit_pass ?_)
      repeat (first | refine JX.next ?_ | refine JX.normal_block ?_)
      refine J.freezeO bC_len hG (e := ty_uint8) (by repeat (first | exact .here | apply Tl.past | apply Tl.there)) (fun _ h => h) rfl rfl ?_
      have he : i = vs.length := by omega
      subst he
      rw [List.take_length] at hx ha
      have hxe := put_ok hl ha hx
      repeat refine J.seq ?_
      refine J.plain ?_
      refine JO.t (ob_move rfl) rfl ?_
      refine JO.t (ob_assign rfl) rfl ?_
      refine JO.t (ob_assign rfl) rfl ?_
      refine JO.nil ?_
      repeat (first | refine JX.next ?_ | refine JX.normal_block ?_)
      refine J.sel [2, 3] (.cons rfl (.cons rfl .nil)) ?_
      repeat refine J.seq ?_
      refine J.ret ?_
      repeat (first | refine JX.ret_pass ?_ | refine JX.ret_block ?_)
      exact JX.ret2sub rfl rfl rfl (by rw [hxe]; exact Sub.slOC hG (by repeat (first | exact List.mem_cons_self | apply List.mem_cons_of_mem))) rfl (Sub.isEq (by rw [hxe]))
end Go.Proofs.YtlccnpmhmdoapaaDoor
