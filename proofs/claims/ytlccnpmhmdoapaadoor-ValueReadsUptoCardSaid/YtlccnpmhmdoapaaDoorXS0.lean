/- The document on values: keys and tuples read. No condition. -/
import Derived.Test.YtlccnpmhmdoapaaDoorXP
import Derived.Test.YtlccnpmhmdoapaaDoorXVE
import Derived.Test.YtlccnpmhmdoapaaDoorXG4
set_option maxRecDepth 20000
namespace Go.Proofs.YtlccnpmhmdoapaaDoor
open Go Go.Vc
open Go.Vl
theorem drop1_take {l : List UInt8} {i : Nat} (h1 : 1 ≤ i) (h : i < l.length) : (l.take (i + 1)).drop 1 = (l.take i).drop 1 ++ [l.getD i 0] := by
  rw [take_snoc h, List.drop_append_of_le_length (by rw [List.length_take]; omega)]
theorem drop_take1 (l : List UInt8) : (l.take 1).drop 1 = [] := by cases l <;> rfl
theorem mul256 (u : Nat) (b : UInt8) : IntKind.u64.wrap (IntKind.u64.wrap (256 * (u : Int)) + ((b.toNat : Nat) : Int)) = (((256 * u + b.toNat) % 18446744073709551616 : Nat) : Int) := by
  rw [wrap_u64, wrap_u64]
  omega
theorem kN_b {l : List UInt8} : kN l < 256 := UInt8.toNat_lt _
theorem fk_first {l : List UInt8} (h : (((l.length : Int) == 0) || decide ((3 : Int) < ((l.getD 0 0).toNat : Nat))) = true) : fkW (candA l) l = (v3D, 6) := by
  rcases or_true2 h with h | h
  · have : l = [] := List.length_eq_zero_iff.1 (by simp at h; exact List.length_eq_zero_iff.2 h)
    subst this
    exact fkB_nil
  · have h := of_decide_eq_true h
    exact fkB_far (by unfold kN; omega)
theorem fk_next {l : List UInt8} (h : (((l.length : Int) == 0) || decide ((3 : Int) < ((l.getD 0 0).toNat : Nat))) = false) : 1 ≤ l.length ∧ kN l ≤ 3 := by
  rw [Bool.or_eq_false_iff, decide_eq_false_iff_not] at h
  refine ⟨?_, by unfold kN; omega⟩
  have := h.1
  simp at this
  rcases Nat.eq_zero_or_pos l.length with e | e
  · exact absurd (List.length_eq_zero_iff.1 e) this
  · exact e
theorem pos_of {l : List UInt8} (h : ((l.length : Int) == 0) = !true) : l.length ≠ 0 := by
  intro e
  rw [e] at h
  cases h
theorem c_ref01_FromKey (l : List UInt8) (hl : l.length ≤ 1048576) : CallTy Tryd.prog f_ref01_FromKey [.rep (SlC bC 1 l)] (.tup2 (.is (.agg #[.int .i64 (fkW (candA l) l).1.k, .int .i64 (fkW (candA l) l).1.n, .string (fkW (candA l) l).1.s])) (.is (.int .i64 (fkW (candA l) l).2))) :=
  CallTy.of (fn := Tryd.f22) Tryd.func22 (n := 104) rfl rfl rfl (fun _ _ => by kernel_rfl) fun E W => by
  refine J.openSlC (s := 0) rfl (fun a len cap b o hlen ha hlc => ?_)
  subst hlen
  have hkb := kN_b (l := l)
  repeat refine J.seq ?_
  refine J.plain ?_
  refine JO.alloc zo_api_Value rfl fun b2 => ?_
  refine JO.t (ob_assign rfl) rfl ?_
  refine JO.nil ?_
  repeat (first | refine JX.next ?_ | refine JX.normal_block ?_)
  refine J.sel [0, 2] (.cons rfl (.cons rfl .nil)) ?_
  repeat refine J.seq ?_
  refine J.plain ?_
  refine JO.t (ob_build (cs := [_, _, _]) sh_api_Value .nil rfl rfl) rfl ?_
  refine JO.alloc zo_api_Value rfl fun b4 => ?_
  refine JO.m (obm_store rfl rfl (by repeat (first | exact .here | apply Upd.there)) (by first | exact cnt_is rfl rfl | exact cnt_ex) (by first | exact cnt_is rfl rfl | exact cnt_ex | exact cnt_aggO) ss_api_Value) (by rfl) ?_
  refine JO.nil ?_
  repeat (first | refine JX.next ?_ | refine JX.normal_block ?_)
  refine J.sel [0, 2, 4] (.cons rfl (.cons rfl (.cons rfl .nil))) ?_
  repeat refine J.seq ?_
  refine J.reg0 hmx (by kernel_rfl) (by kernel_rfl) ?_
  refine RT.t (ob_move rfl) ?_
  refine RT.t (ob_len un_sl_uint8 rfl) ?_
  refine RT.t (ob_eql rfl rfl) ?_
  refine RT.t (ob_move rfl) ?_
  refine RT.g rfl rfl rfl (fun hg => ob_move (.inl rfl)) ?_
  refine RT.g rfl rfl rfl (fun hg => ob_indexAddr el_sl_uint8 (.inr ⟨_, rfl, fun h => h⟩) (ha (pos_of hg)) (.inl rfl) (by omega) (by have := pos_of hg; omega)) ?_
  refine RT.g rfl rfl rfl (fun hg => ob_loadG1 (enc := bC) (sz := 1) (len := l.length) (i := 0) (j := 0) (y := l.getD 0 0) sz_uint8 (.inr ⟨_, rfl, fun h => h⟩) (by repeat (first | exact List.mem_cons_self | apply List.mem_cons_of_mem)) (ha (pos_of hg)) (u8_get (by have := pos_of hg; omega)) (by rfl) rfl) ?_
  refine RT.g rfl rfl rfl (fun hg => ob_gtr (.inr ⟨_, rfl, fun h => h⟩) (.inl rfl)) ?_
  refine RT.t (ob_pickOr rfl rfl rfl id) ?_
  refine RT.nil ?_
  refine FinS.nil0 ?_
  repeat (first | refine JX.next ?_ | refine JX.normal_block ?_)
  refine J.sel [0, 2, 4, 20] (.cons rfl (.cons rfl (.cons rfl (.cons rfl .nil)))) ?_
  repeat refine J.seq ?_
  refine J.cond rfl (fun ht20 => ?_) (fun ht20 => ?_)
  ·
    try simp only [decide_eq_true_eq, decide_eq_false_iff_not] at ht20
    have hx := fk_first ht20
    repeat refine J.seq ?_
    refine J.plain ?_
    refine JO.t (ob_ldN (cs := [_, _, _]) sz_api_Value rfl rfl rfl) rfl ?_
    refine JO.m (obm_store rfl rfl (by repeat (first | exact .here | apply Upd.there)) (by first | exact cnt_is rfl rfl | exact cnt_ex) (by first | exact cnt_is rfl rfl | exact cnt_ex | exact cnt_aggO) ss_api_Value) (by rfl) ?_
    refine JO.t (ob_assign rfl) rfl ?_
    refine JO.nil ?_
    repeat (first | refine JX.next ?_ | refine JX.normal_block ?_)
    refine J.sel [2, 3] (.cons rfl (.cons rfl .nil)) ?_
    repeat refine J.seq ?_
    refine J.ret ?_
    repeat (first | refine JX.ret_pass ?_ | refine JX.ret_block ?_)
    exact JX.retC1is rfl rfl sz_api_Value HasOwn.mem rfl rfl (by rw [hx]) (by rw [hx])
  ·
    try simp only [decide_eq_true_eq, decide_eq_false_iff_not] at ht20
    refine J.skip ?_
    repeat (first | refine JX.next ?_ | refine JX.normal_block ?_)
    have hk3 := fk_next ht20
    repeat refine J.seq ?_
    refine J.plain ?_
    refine JO.t (ob_move rfl) rfl ?_
    refine JO.t (ob_indexAddr el_sl_uint8 rfl (ha (by omega)) rfl (by omega) (by omega)) rfl ?_
    refine JO.t (ob_loadG1 (enc := bC) (sz := 1) (len := l.length) (i := 0) (j := 0) (y := l.getD 0 0) sz_uint8 rfl (by repeat (first | exact List.mem_cons_self | apply List.mem_cons_of_mem)) (ha (by omega)) (u8_get (by omega)) (by omega) rfl) rfl ?_
    refine JO.t (ob_convIIe (cc := ((kN l : Nat) : Int)) ⟨_, un_uint8⟩ un_int rfl (wrap64_eq (by omega) (by show ((kN l : Nat) : Int) < _; omega))) rfl ?_
    refine JO.t (ob_fieldAddr fo_api_Value_0 rfl) rfl ?_
    refine JO.m (obm_storeF (cs' := [_, _, _]) rfl rfl (by repeat (first | exact .here | apply Upd.there)) rfl rfl rfl rfl ss_int) (by rfl) ?_
    refine JO.nil ?_
    repeat (first | refine JX.next ?_ | refine JX.normal_block ?_)
    refine J.sel [0, 2, 4] (.cons rfl (.cons rfl (.cons rfl .nil))) ?_
    repeat refine J.seq ?_
    refine J.plain ?_
    refine JO.t (ob_fieldAddr fo_api_Value_0 rfl) rfl ?_
    refine JO.t (ob_ld1 sz_int rfl rfl) rfl ?_
    refine JO.t (ob_eql rfl rfl) rfl ?_
    refine JO.nil ?_
    repeat (first | refine JX.next ?_ | refine JX.normal_block ?_)
    refine J.sel [0, 2, 4, 29] (.cons rfl (.cons rfl (.cons rfl (.cons rfl .nil)))) ?_
    repeat refine J.seq ?_
    refine J.cond rfl (fun ht29 => ?_) (fun ht29 => ?_)
    ·
      try simp only [decide_eq_true_eq, decide_eq_false_iff_not] at ht29
      repeat refine J.seq ?_
      refine J.plain ?_
      refine JO.t (ob_assign (T := .is (.int .u64 (numW ((l.take 1).drop 1) : Nat))) (by rw [drop_take1]; rfl)) rfl ?_
      refine JO.nil ?_
      repeat (first | refine JX.next ?_ | refine JX.normal_block ?_)
      refine J.sel [0, 2, 4, 5] (.cons rfl (.cons rfl (.cons rfl (.cons rfl .nil)))) ?_
      repeat refine J.seq ?_
      refine J.plain ?_
      refine JO.t (ob_assign rfl) rfl ?_
      refine JO.nil ?_
      repeat (first | refine JX.next ?_ | refine JX.normal_block ?_)
      refine J.sel [0, 2, 4, 5, 6] (.cons rfl (.cons rfl (.cons rfl (.cons rfl (.cons rfl .nil))))) ?_
      repeat refine J.seq ?_
      refine J.block ?_
      repeat refine J.seq ?_
      refine J.loopF (α := Nat) (fun i => [(0, _), (2, _), (4, _), (5, .is (.int .u64 (numW ((l.take i).drop 1) : Nat))), (6, .is (.int .i64 (i : Nat)))]) (fun i => 1 ≤ i ∧ i ≤ l.length) (fun i => l.length - i) 1 [0, 2, 4, 5, 6] (.cons rfl (.cons rfl (.cons rfl (.cons rfl (.cons rfl .nil))))) ⟨Nat.le_refl _, hk3.1⟩ fun i ⟨hi1, hi⟩ => ?_
      repeat refine J.seq ?_
      refine J.plain ?_
      refine JO.t (ob_move rfl) rfl ?_
      refine JO.t (ob_move rfl) rfl ?_
      refine JO.t (ob_len un_sl_uint8 rfl) rfl ?_
      refine JO.t (ob_lss rfl rfl) rfl ?_
      refine JO.nil ?_
      repeat (first | refine JX.next ?_ | refine JX.normal_block ?_)
      refine J.sel [0, 2, 4, 5, 6, 33] (.cons rfl (.cons rfl (.cons rfl (.cons rfl (.cons rfl (.cons rfl .nil)))))) ?_
      repeat refine J.seq ?_
      refine J.cond rfl (fun ht33 => ?_) (fun ht33 => ?_)
      ·
        try simp only [decide_eq_true_eq, decide_eq_false_iff_not] at ht33
        refine J.skip ?_
        repeat (first | refine JX.next ?_ | refine JX.normal_block ?_)
        repeat refine J.seq ?_
        refine J.block ?_
        repeat refine J.seq ?_
        refine J.plain ?_
        refine JO.t (ob_move rfl) rfl ?_
        refine JO.t (ob_mul rfl rfl) rfl ?_
        refine JO.t (ob_move rfl) rfl ?_
        refine JO.t (ob_move rfl) rfl ?_
        refine JO.t (ob_indexAddr el_sl_uint8 rfl (ha (by omega)) rfl (by omega) (by omega)) rfl ?_
        refine JO.t (ob_loadG1 (enc := bC) (sz := 1) (len := l.length) (i := i) (j := 0) (y := l.getD i 0) sz_uint8 rfl (by repeat (first | exact List.mem_cons_self | apply List.mem_cons_of_mem)) (ha (by omega)) (u8_get (by omega)) (by omega) rfl) rfl ?_
        refine JO.t (ob_convIIe (cc := ((l.getD i 0).toNat : Int)) ⟨_, un_uint8⟩ un_uint64 rfl (by have := UInt8.toNat_lt (l.getD i 0); rw [wrap_u64]; omega)) rfl ?_
        refine JO.t (ob_addv (v := ((numW ((l.take (i + 1)).drop 1) : Nat) : Int)) rfl rfl (by rw [drop1_take hi1 (by omega), numW_snoc]; exact mul256 _ _)) rfl ?_
        refine JO.t (ob_assign rfl) rfl ?_
        refine JO.nil ?_
        repeat (first | refine JX.next ?_ | refine JX.normal_block ?_)
        refine J.sel [0, 2, 4, 5, 6] (.cons rfl (.cons rfl (.cons rfl (.cons rfl (.cons rfl .nil))))) ?_
        repeat refine J.seq ?_
        refine J.plain ?_
        refine JO.t (ob_move rfl) rfl ?_
        refine JO.t (ob_addc (cc := ((i + 1 : Nat) : Int)) rfl rfl (by omega) (by omega) (by omega)) rfl ?_
        refine JO.t (ob_assign rfl) rfl ?_
        refine JO.nil ?_
        repeat refine JX.normal_block ?_
        refine JX.roundS (i + 1) ?_ ?_ [0, 2, 4, 5, 6] ?_ ?_ ?_
        · exact ⟨by omega, by omega⟩
        · exact (by omega)
        · exact (.cons rfl (.cons rfl (.cons rfl (.cons rfl (.cons rfl .nil)))))
        · repeat (first | exact .slnil | apply List.Sublist.cons_cons | apply List.Sublist.cons)
        · repeat (first | exact .slnil | apply List.Sublist.cons_cons | apply List.Sublist.cons)
      ·
        try simp only [decide_eq_true_eq, decide_eq_false_iff_not] at ht33
        repeat refine J.seq ?_
        refine J.exit ?_
        repeat (first | refine JX.hit ?_ | refine JX.miss rfl ?_ | refine JX.exit_pass ?_)
        repeat (first | refine JX.next ?_ | refine JX.normal_block ?_)
        have he : i = l.length := by omega
        subst he
        rw [List.take_length]
        repeat refine J.seq ?_
        refine J.plain ?_
        refine JO.t (ob_move rfl) rfl ?_
        refine JO.t (ob_sub rfl rfl) rfl ?_
        refine JO.t (ob_convIIe (cc := unbW (numW (l.drop 1))) ⟨_, un_uint64⟩ un_int64 rfl rfl) rfl ?_
        refine JO.t (ob_fieldAddr fo_api_Value_1 rfl) rfl ?_
        refine JO.m (obm_storeF (cs' := [_, _, _]) rfl rfl (by repeat (first | exact .here | apply Upd.there)) rfl rfl rfl rfl ss_int64) (by rfl) ?_
        refine JO.nil ?_
        repeat (first | refine JX.next ?_ | refine JX.normal_block ?_)
        refine J.sel [0, 2, 4] (.cons rfl (.cons rfl (.cons rfl .nil))) ?_
        repeat refine J.seq ?_
        refine J.reg0 hmx (by kernel_rfl) (by kernel_rfl) ?_
        refine RT.t (ob_fieldAddr fo_api_Value_0 rfl) ?_
        refine RT.t (ob_ld1 sz_int rfl rfl) ?_
        refine RT.t (ob_eql rfl rfl) ?_
        refine RT.t (ob_move rfl) ?_
        refine RT.g rfl rfl rfl (fun hg => ob_move (.inl rfl)) ?_
        refine RT.g rfl rfl rfl (fun hg => ob_len un_sl_uint8 (.inr ⟨_, rfl, fun h => h⟩)) ?_
        refine RT.g rfl rfl rfl (fun hg => ob_gtr (.inr ⟨_, rfl, fun h => h⟩) (.inl rfl)) ?_
        refine RT.t (ob_pickAnd rfl rfl rfl id) ?_
        refine RT.nil ?_
        refine FinS.nil0 ?_
        repeat (first | refine JX.next ?_ | refine JX.normal_block ?_)
        refine J.sel [0, 2, 4, 55] (.cons rfl (.cons rfl (.cons rfl (.cons rfl .nil)))) ?_
        repeat refine J.seq ?_
        refine J.cond rfl (fun ht55 => ?_) (fun ht55 => ?_)
        ·
          try simp only [decide_eq_true_eq, decide_eq_false_iff_not] at ht55
          exfalso
          have h1 := ht29; have h2 := (and_split2 ht55).1; simp at h1 h2; omega
        ·
          try simp only [decide_eq_true_eq, decide_eq_false_iff_not] at ht55
          refine J.skip ?_
          repeat (first | refine JX.next ?_ | refine JX.normal_block ?_)
          repeat refine J.seq ?_
          refine J.plain ?_
          refine JO.t (ob_fieldAddr fo_api_Value_0 rfl) rfl ?_
          refine JO.t (ob_ld1 sz_int rfl rfl) rfl ?_
          refine JO.t (ob_eql rfl rfl) rfl ?_
          refine JO.nil ?_
          repeat (first | refine JX.next ?_ | refine JX.normal_block ?_)
          refine J.sel [0, 2, 4, 63] (.cons rfl (.cons rfl (.cons rfl (.cons rfl .nil)))) ?_
          repeat refine J.seq ?_
          refine J.cond rfl (fun ht63 => ?_) (fun ht63 => ?_)
          ·
            try simp only [decide_eq_true_eq, decide_eq_false_iff_not] at ht63
            exfalso
            have h1 := ht29; have h2 := ht63; simp at h1 h2; omega
          ·
            try simp only [decide_eq_true_eq, decide_eq_false_iff_not] at ht63
            refine J.skip ?_
            repeat (first | refine JX.next ?_ | refine JX.normal_block ?_)
            have hc := (show candB l = _ by unfold candB; rw [if_pos ht29])
            refine J.coerO (e := ty_api_Value) (b := b4) (T' := .is (.agg #[.int .i64 (candB l).k, .int .i64 (candB l).n, .string (candB l).s])) (by repeat (first | exact .here | apply Upd.there)) (Sub.isEq (by first | (rw [hc]; done) | (rw [hc]; rfl))) ?_
            repeat refine J.seq ?_
            refine J.plain ?_
            refine JO.t (ob_ldN (cs := [_, _, _]) sz_api_Value rfl rfl rfl) rfl ?_
            refine JO.t (ob_call rfl (c_ref01_Key (candB l) (candB_rng l)) (.one rfl .nil)) rfl ?_
            refine JO.t (ob_move rfl) rfl ?_
            refine JO.t (ob_extract0 rfl) rfl ?_
            refine JO.t (ob_extract1 rfl) rfl ?_
            refine JO.t (ob_assign rfl) rfl ?_
            refine JO.t (ob_assign rfl) rfl ?_
            refine JO.nil ?_
            repeat (first | refine JX.next ?_ | refine JX.normal_block ?_)
            refine J.sel [0, 2, 4, 9, 10] (.cons rfl (.cons rfl (.cons rfl (.cons rfl (.cons rfl .nil))))) ?_
            refine J.openSlC (s := 9) rfl (fun a5 n5 c5 q5 o5 hl5 ha5 hc5 => ?_)
            repeat refine J.seq ?_
            refine J.reg0 hmx (by kernel_rfl) (by kernel_rfl) ?_
            refine RT.t (ob_move rfl) ?_
            refine RT.t (ob_neq rfl rfl) ?_
            refine RT.t (ob_move rfl) ?_
            refine RT.g rfl rfl rfl (fun hg => ob_move (.inl rfl)) ?_
            refine RT.g rfl rfl rfl (fun hg => ob_str un_sl_uint8 un_uint8 un_string (.inr ⟨_, rfl, fun h => h⟩) (by repeat (first | exact List.mem_cons_self | apply List.mem_cons_of_mem))) ?_
            refine RT.g rfl rfl rfl (fun hg => ob_move (.inl rfl)) ?_
            refine RT.g rfl rfl rfl (fun hg => ob_str un_sl_uint8 un_uint8 un_string (.inr ⟨_, rfl, fun h => h⟩) (by repeat (first | exact List.mem_cons_self | apply List.mem_cons_of_mem))) ?_
            refine RT.g rfl rfl rfl (fun hg => ob_sneq (.inr ⟨_, rfl, fun h => h⟩) (.inr ⟨_, rfl, fun h => h⟩)) ?_
            refine RT.t (ob_pickOr rfl rfl rfl id) ?_
            refine RT.nil ?_
            refine FinS.nil0 ?_
            repeat (first | refine JX.next ?_ | refine JX.normal_block ?_)
            refine J.sel [2, 4, 101] (.cons rfl (.cons rfl (.cons rfl .nil))) ?_
            repeat refine J.seq ?_
            refine J.cond rfl (fun ht101 => ?_) (fun ht101 => ?_)
            ·
              try simp only [decide_eq_true_eq, decide_eq_false_iff_not] at ht101
              repeat refine J.seq ?_
              refine J.plain ?_
              refine JO.t (ob_build (cs := [_, _, _]) sh_api_Value .nil rfl rfl) rfl ?_
              refine JO.m (obm_store rfl rfl (by repeat (first | exact .here | apply Upd.there)) (by first | exact cnt_is rfl rfl | exact cnt_ex) (by first | exact cnt_is rfl rfl | exact cnt_ex | exact cnt_aggO) ss_api_Value) (by rfl) ?_
              refine JO.t (ob_assign rfl) rfl ?_
              refine JO.nil ?_
              repeat (first | refine JX.next ?_ | refine JX.normal_block ?_)
              refine J.sel [2, 3] (.cons rfl (.cons rfl .nil)) ?_
              repeat refine J.seq ?_
              refine J.ret ?_
              repeat (first | refine JX.ret_pass ?_ | refine JX.ret_block ?_)
              exact JX.retC1is rfl rfl sz_api_Value HasOwn.mem rfl rfl (by rw [← fkB_eq, fk_yes ht101]) (by rw [← fkB_eq, fk_yes ht101])
            ·
              try simp only [decide_eq_true_eq, decide_eq_false_iff_not] at ht101
              refine J.skip ?_
              repeat (first | refine JX.next ?_ | refine JX.normal_block ?_)
              repeat refine J.seq ?_
              refine J.plain ?_
              refine JO.t (ob_ldN (cs := [_, _, _]) sz_api_Value rfl rfl rfl) rfl ?_
              refine JO.m (obm_store rfl rfl (by repeat (first | exact .here | apply Upd.there)) (by first | exact cnt_is rfl rfl | exact cnt_ex) (by first | exact cnt_is rfl rfl | exact cnt_ex | exact cnt_aggO) ss_api_Value) (by rfl) ?_
              refine JO.t (ob_assign rfl) rfl ?_
              refine JO.nil ?_
              repeat (first | refine JX.next ?_ | refine JX.normal_block ?_)
              refine J.sel [2, 3] (.cons rfl (.cons rfl .nil)) ?_
              repeat refine J.seq ?_
              refine J.ret ?_
              repeat (first | refine JX.ret_pass ?_ | refine JX.ret_block ?_)
              exact JX.retC1is rfl rfl sz_api_Value HasOwn.mem rfl rfl (by rw [← fkB_eq, fk_no ht101]) (by rw [← fkB_eq, fk_no ht101])
    ·
      try simp only [decide_eq_true_eq, decide_eq_false_iff_not] at ht29
      refine J.skip ?_
      repeat (first | refine JX.next ?_ | refine JX.normal_block ?_)
      repeat refine J.seq ?_
      refine J.reg0 hmx (by kernel_rfl) (by kernel_rfl) ?_
      refine RT.t (ob_fieldAddr fo_api_Value_0 rfl) ?_
      refine RT.t (ob_ld1 sz_int rfl rfl) ?_
      refine RT.t (ob_eql rfl rfl) ?_
      refine RT.t (ob_move rfl) ?_
      refine RT.g rfl rfl rfl (fun hg => ob_move (.inl rfl)) ?_
      refine RT.g rfl rfl rfl (fun hg => ob_len un_sl_uint8 (.inr ⟨_, rfl, fun h => h⟩)) ?_
      refine RT.g rfl rfl rfl (fun hg => ob_gtr (.inr ⟨_, rfl, fun h => h⟩) (.inl rfl)) ?_
      refine RT.t (ob_pickAnd rfl rfl rfl id) ?_
      refine RT.nil ?_
      refine FinS.nil0 ?_
      repeat (first | refine JX.next ?_ | refine JX.normal_block ?_)
      refine J.sel [0, 2, 4, 55] (.cons rfl (.cons rfl (.cons rfl (.cons rfl .nil)))) ?_
      repeat refine J.seq ?_
      refine J.cond rfl (fun ht55 => ?_) (fun ht55 => ?_)
      ·
        try simp only [decide_eq_true_eq, decide_eq_false_iff_not] at ht55
        have h1l := of_decide_eq_true (and_split2 ht55).2
        repeat refine J.seq ?_
        refine J.plain ?_
        refine JO.t (ob_move rfl) rfl ?_
        refine JO.t (ob_indexAddr el_sl_uint8 rfl (ha (by omega)) rfl (by omega) (by omega)) rfl ?_
        refine JO.t (ob_loadG1 (enc := bC) (sz := 1) (len := l.length) (i := 1) (j := 0) (y := l.getD 1 0) sz_uint8 rfl (by repeat (first | exact List.mem_cons_self | apply List.mem_cons_of_mem)) (ha (by omega)) (u8_get (by omega)) (by omega) rfl) rfl ?_
        refine JO.t (ob_convIIe (cc := ((l.getD 1 0).toNat : Int)) ⟨_, un_uint8⟩ un_int64 rfl (wrap64_eq (by omega) (by have := UInt8.toNat_lt (l.getD 1 0); omega))) rfl ?_
        refine JO.t (ob_fieldAddr fo_api_Value_1 rfl) rfl ?_
        refine JO.m (obm_storeF (cs' := [_, _, _]) rfl rfl (by repeat (first | exact .here | apply Upd.there)) rfl rfl rfl rfl ss_int64) (by rfl) ?_
        refine JO.nil ?_
        repeat (first | refine JX.next ?_ | refine JX.normal_block ?_)
        refine J.sel [0, 2, 4] (.cons rfl (.cons rfl (.cons rfl .nil))) ?_
        repeat refine J.seq ?_
        refine J.plain ?_
        refine JO.t (ob_fieldAddr fo_api_Value_0 rfl) rfl ?_
        refine JO.t (ob_ld1 sz_int rfl rfl) rfl ?_
        refine JO.t (ob_eql rfl rfl) rfl ?_
        refine JO.nil ?_
        repeat (first | refine JX.next ?_ | refine JX.normal_block ?_)
        refine J.sel [0, 2, 4, 63] (.cons rfl (.cons rfl (.cons rfl (.cons rfl .nil)))) ?_
        repeat refine J.seq ?_
        refine J.cond rfl (fun ht63 => ?_) (fun ht63 => ?_)
        ·
          try simp only [decide_eq_true_eq, decide_eq_false_iff_not] at ht63
          exfalso
          have h1 := (and_split2 ht55).1; have h2 := ht63; simp at h1 h2; omega
        ·
          try simp only [decide_eq_true_eq, decide_eq_false_iff_not] at ht63
          refine J.skip ?_
          repeat (first | refine JX.next ?_ | refine JX.normal_block ?_)
          have hc := (show candB l = _ by unfold candB; rw [if_neg (by rw [ht29]; simp), if_pos ht55])
          refine J.coerO (e := ty_api_Value) (b := b4) (T' := .is (.agg #[.int .i64 (candB l).k, .int .i64 (candB l).n, .string (candB l).s])) (by repeat (first | exact .here | apply Upd.there)) (Sub.isEq (by first | (rw [hc]; done) | (rw [hc]; rfl))) ?_
          repeat refine J.seq ?_
          refine J.plain ?_
          refine JO.t (ob_ldN (cs := [_, _, _]) sz_api_Value rfl rfl rfl) rfl ?_
          refine JO.t (ob_call rfl (c_ref01_Key (candB l) (candB_rng l)) (.one rfl .nil)) rfl ?_
          refine JO.t (ob_move rfl) rfl ?_
          refine JO.t (ob_extract0 rfl) rfl ?_
          refine JO.t (ob_extract1 rfl) rfl ?_
          refine JO.t (ob_assign rfl) rfl ?_
          refine JO.t (ob_assign rfl) rfl ?_
          refine JO.nil ?_
          repeat (first | refine JX.next ?_ | refine JX.normal_block ?_)
          refine J.sel [0, 2, 4, 9, 10] (.cons rfl (.cons rfl (.cons rfl (.cons rfl (.cons rfl .nil))))) ?_
          refine J.openSlC (s := 9) rfl (fun a5 n5 c5 q5 o5 hl5 ha5 hc5 => ?_)
          repeat refine J.seq ?_
          refine J.reg0 hmx (by kernel_rfl) (by kernel_rfl) ?_
          refine RT.t (ob_move rfl) ?_
          refine RT.t (ob_neq rfl rfl) ?_
          refine RT.t (ob_move rfl) ?_
          refine RT.g rfl rfl rfl (fun hg => ob_move (.inl rfl)) ?_
          refine RT.g rfl rfl rfl (fun hg => ob_str un_sl_uint8 un_uint8 un_string (.inr ⟨_, rfl, fun h => h⟩) (by repeat (first | exact List.mem_cons_self | apply List.mem_cons_of_mem))) ?_
          refine RT.g rfl rfl rfl (fun hg => ob_move (.inl rfl)) ?_
          refine RT.g rfl rfl rfl (fun hg => ob_str un_sl_uint8 un_uint8 un_string (.inr ⟨_, rfl, fun h => h⟩) (by repeat (first | exact List.mem_cons_self | apply List.mem_cons_of_mem))) ?_
          refine RT.g rfl rfl rfl (fun hg => ob_sneq (.inr ⟨_, rfl, fun h => h⟩) (.inr ⟨_, rfl, fun h => h⟩)) ?_
          refine RT.t (ob_pickOr rfl rfl rfl id) ?_
          refine RT.nil ?_
          refine FinS.nil0 ?_
          repeat (first | refine JX.next ?_ | refine JX.normal_block ?_)
          refine J.sel [2, 4, 101] (.cons rfl (.cons rfl (.cons rfl .nil))) ?_
          repeat refine J.seq ?_
          refine J.cond rfl (fun ht101 => ?_) (fun ht101 => ?_)
          ·
            try simp only [decide_eq_true_eq, decide_eq_false_iff_not] at ht101
            repeat refine J.seq ?_
            refine J.plain ?_
            refine JO.t (ob_build (cs := [_, _, _]) sh_api_Value .nil rfl rfl) rfl ?_
            refine JO.m (obm_store rfl rfl (by repeat (first | exact .here | apply Upd.there)) (by first | exact cnt_is rfl rfl | exact cnt_ex) (by first | exact cnt_is rfl rfl | exact cnt_ex | exact cnt_aggO) ss_api_Value) (by rfl) ?_
            refine JO.t (ob_assign rfl) rfl ?_
            refine JO.nil ?_
            repeat (first | refine JX.next ?_ | refine JX.normal_block ?_)
            refine J.sel [2, 3] (.cons rfl (.cons rfl .nil)) ?_
            repeat refine J.seq ?_
            refine J.ret ?_
            repeat (first | refine JX.ret_pass ?_ | refine JX.ret_block ?_)
            exact JX.retC1is rfl rfl sz_api_Value HasOwn.mem rfl rfl (by rw [← fkB_eq, fk_yes ht101]) (by rw [← fkB_eq, fk_yes ht101])
          ·
            try simp only [decide_eq_true_eq, decide_eq_false_iff_not] at ht101
            refine J.skip ?_
            repeat (first | refine JX.next ?_ | refine JX.normal_block ?_)
            repeat refine J.seq ?_
            refine J.plain ?_
            refine JO.t (ob_ldN (cs := [_, _, _]) sz_api_Value rfl rfl rfl) rfl ?_
            refine JO.m (obm_store rfl rfl (by repeat (first | exact .here | apply Upd.there)) (by first | exact cnt_is rfl rfl | exact cnt_ex) (by first | exact cnt_is rfl rfl | exact cnt_ex | exact cnt_aggO) ss_api_Value) (by rfl) ?_
            refine JO.t (ob_assign rfl) rfl ?_
            refine JO.nil ?_
            repeat (first | refine JX.next ?_ | refine JX.normal_block ?_)
            refine J.sel [2, 3] (.cons rfl (.cons rfl .nil)) ?_
            repeat refine J.seq ?_
            refine J.ret ?_
            repeat (first | refine JX.ret_pass ?_ | refine JX.ret_block ?_)
            exact JX.retC1is rfl rfl sz_api_Value HasOwn.mem rfl rfl (by rw [← fkB_eq, fk_no ht101]) (by rw [← fkB_eq, fk_no ht101])
      ·
        try simp only [decide_eq_true_eq, decide_eq_false_iff_not] at ht55
        refine J.skip ?_
        repeat (first | refine JX.next ?_ | refine JX.normal_block ?_)
        repeat refine J.seq ?_
        refine J.plain ?_
        refine JO.t (ob_fieldAddr fo_api_Value_0 rfl) rfl ?_
        refine JO.t (ob_ld1 sz_int rfl rfl) rfl ?_
        refine JO.t (ob_eql rfl rfl) rfl ?_
        refine JO.nil ?_
        repeat (first | refine JX.next ?_ | refine JX.normal_block ?_)
        refine J.sel [0, 2, 4, 63] (.cons rfl (.cons rfl (.cons rfl (.cons rfl .nil)))) ?_
        repeat refine J.seq ?_
        refine J.cond rfl (fun ht63 => ?_) (fun ht63 => ?_)
        ·
          try simp only [decide_eq_true_eq, decide_eq_false_iff_not] at ht63
          repeat refine J.seq ?_
          refine J.plain ?_
          refine JO.t (ob_assign rfl) rfl ?_
          refine JO.nil ?_
          repeat (first | refine JX.next ?_ | refine JX.normal_block ?_)
          refine J.sel [0, 2, 4, 7] (.cons rfl (.cons rfl (.cons rfl (.cons rfl .nil)))) ?_
          repeat refine J.seq ?_
          refine J.plain ?_
          refine JO.t (ob_assign rfl) rfl ?_
          refine JO.nil ?_
          repeat (first | refine JX.next ?_ | refine JX.normal_block ?_)
          refine J.sel [0, 2, 4, 7, 8] (.cons rfl (.cons rfl (.cons rfl (.cons rfl (.cons rfl .nil))))) ?_
          repeat refine J.seq ?_
          refine J.block ?_
          repeat refine J.seq ?_
          refine J.loopG (α := Nat × List UInt8 × Option (Nat × List Value) × Nat) (fun z => [(0, _), (2, _), (4, _), (7, .is (sliceO z.2.2.1 z.2.1.length z.2.2.2)), (8, .is (.int .i64 (z.1 : Nat)))]) (fun z => ownO z.2.2.1 ty_uint8 [⟨b4, ty_api_Value, .is (.agg #[.int .i64 ((kN l : Nat) : Int), .int .i64 0, .string e0])⟩, ⟨b2, ty_api_Value, .is (.agg #[.int .i64 0, .int .i64 0, .string e0])⟩]) (fun z => fun _ => True) (fun z => z.1 ≤ l.length ∧ z.2.1 ++ unesc (l.drop z.1) = unesc (l.drop 1) ∧ z.2.1.length ≤ z.1 ∧ Grows bC 1 z.2.1 z.2.2.1 z.2.2.2) (fun z => l.length - z.1) (1, [], none, 0) [0, 2, 4, 7, 8] (.cons rfl (.cons rfl (.cons rfl (.cons rfl (.cons rfl .nil))))) rfl (fun _ => trivial) ⟨hk3.1, rfl, by simp, rfl⟩ fun ⟨i, xs, st, cp⟩ ⟨hi, hxs, hxl, hG⟩ => ?_
          try dsimp only
          try dsimp only at xs
          try dsimp only at st
          try dsimp only at cp
          try dsimp only at hi
          try dsimp only at hxs
          try dsimp only at hxl
          try dsimp only at hG
          repeat refine J.seq ?_
          refine J.plain ?_
          refine JO.t (ob_move rfl) rfl ?_
          refine JO.t (ob_addc (cc := ((i + 2 : Nat) : Int)) rfl rfl (by omega) (by omega) (by omega)) rfl ?_
          refine JO.t (ob_move rfl) rfl ?_
          refine JO.t (ob_len un_sl_uint8 rfl) rfl ?_
          refine JO.t (ob_lss rfl rfl) rfl ?_
          refine JO.nil ?_
          repeat (first | refine JX.next ?_ | refine JX.normal_block ?_)
          refine J.sel [0, 2, 4, 7, 8, 68] (.cons rfl (.cons rfl (.cons rfl (.cons rfl (.cons rfl (.cons rfl .nil)))))) ?_
          repeat refine J.seq ?_
          refine J.cond rfl (fun ht68 => ?_) (fun ht68 => ?_)
          ·
            try simp only [decide_eq_true_eq, decide_eq_false_iff_not] at ht68
            refine J.skip ?_
            repeat (first | refine JX.next ?_ | refine JX.normal_block ?_)
            repeat refine J.seq ?_
            refine J.block ?_
            repeat refine J.seq ?_
            refine J.plain ?_
            refine JO.t (ob_move rfl) rfl ?_
            refine JO.t (ob_move rfl) rfl ?_
            refine JO.t (ob_move rfl) rfl ?_
            refine JO.t (ob_indexAddr el_sl_uint8 rfl (ha (by omega)) rfl (by omega) (by omega)) rfl ?_
            refine JO.t (ob_loadG1 (enc := bC) (sz := 1) (len := l.length) (i := i) (j := 0) (y := l.getD i 0) sz_uint8 rfl (by repeat (first | exact List.mem_cons_self | apply List.mem_cons_of_mem)) (ha (by omega)) (u8_get (by omega)) (by omega) rfl) rfl ?_
            refine JO.t (ob_buildSlice (cs := [_]) sl_sl_uint8 (by omega) (by omega) (.cons rfl .nil) rfl rfl rfl) rfl ?_
            refine JO.apX ([l.getD i 0]) ap_sl_uint8 bC_len (by repeat (first | exact .here | apply Cx.past | apply Cx.there)) hG rfl rfl (fun L => src_new un_sl_uint8 rfl rfl) (by simp) (by simp <;> omega) (by simp <;> omega) rfl (fun st1 cp1 hG1 => ?_)
            try dsimp only
            refine JO.t (ob_assign rfl) rfl ?_
            refine JO.nil ?_
            repeat (first | refine JX.next ?_ | refine JX.normal_block ?_)
            refine J.sel [0, 2, 4, 7, 8] (.cons rfl (.cons rfl (.cons rfl (.cons rfl (.cons rfl .nil))))) ?_
            repeat refine J.seq ?_
            refine J.plain ?_
            refine JO.t (ob_move rfl) rfl ?_
            refine JO.t (ob_move rfl) rfl ?_
            refine JO.t (ob_indexAddr el_sl_uint8 rfl (ha (by omega)) rfl (by omega) (by omega)) rfl ?_
            refine JO.t (ob_loadG1 (enc := bC) (sz := 1) (len := l.length) (i := i) (j := 0) (y := l.getD i 0) sz_uint8 rfl (by repeat (first | exact List.mem_cons_self | apply List.mem_cons_of_mem)) (ha (by omega)) (u8_get (by omega)) (by omega) rfl) rfl ?_
            refine JO.t (ob_eql rfl rfl) rfl ?_
            refine JO.nil ?_
            repeat (first | refine JX.next ?_ | refine JX.normal_block ?_)
            refine J.sel [0, 2, 4, 7, 8, 82] (.cons rfl (.cons rfl (.cons rfl (.cons rfl (.cons rfl (.cons rfl .nil)))))) ?_
            repeat refine J.seq ?_
            refine J.cond rfl (fun ht82 => ?_) (fun ht82 => ?_)
            ·
              try simp only [decide_eq_true_eq, decide_eq_false_iff_not] at ht82
              repeat refine J.seq ?_
              refine J.plain ?_
              refine JO.t (ob_move rfl) rfl ?_
              refine JO.t (ob_addc (cc := ((i + 1 : Nat) : Int)) rfl rfl (by omega) (by omega) (by omega)) rfl ?_
              refine JO.t (ob_assign rfl) rfl ?_
              refine JO.nil ?_
              repeat (first | refine JX.next ?_ | refine JX.normal_block ?_)
              refine J.sel [0, 2, 4, 7, 8] (.cons rfl (.cons rfl (.cons rfl (.cons rfl (.cons rfl .nil))))) ?_
              repeat refine J.seq ?_
              refine J.plain ?_
              refine JO.t (ob_move rfl) rfl ?_
              refine JO.t (ob_addc (cc := ((i + 2 : Nat) : Int)) rfl rfl (by omega) (by omega) (by omega)) rfl ?_
              refine JO.t (ob_assign rfl) rfl ?_
              refine JO.nil ?_
              repeat refine JX.normal_block ?_
              refine JX.roundG (x := ⟨i, xs, st, cp⟩) (i + 2, xs ++ [l.getD i 0], st1, cp1) ?_ ?_ [0, 2, 4, 7, 8] ?_ ?_ ?_ ?_
              · exact ⟨by omega, by show (xs ++ _) ++ _ = _; rw [← hxs, unesc_step (i := i) (by omega), if_pos (z_eq.1 ht82), List.append_assoc]; rfl, by simp; omega, hG1⟩
              · exact (by simp only; omega)
              · exact (.cons rfl (.cons rfl (.cons rfl (.cons rfl (.cons rfl .nil)))))
              · repeat (first | exact .all | exact .nil | refine Has.own (by repeat (first | exact .here | apply Tl.past | apply Tl.there)) ?_ | refine Has.cons (by repeat (first | exact .here | apply Pk.past | apply Pk.there)) ?_)
              · exact fun G hG => by repeat (first | exact hG | refine List.mem_cons_of_mem _ ?_)
              · exact fun _ _ _ => fun _ _ => trivial
            ·
              try simp only [decide_eq_true_eq, decide_eq_false_iff_not] at ht82
              refine J.skip ?_
              repeat (first | refine JX.next ?_ | refine JX.normal_block ?_)
              repeat refine J.seq ?_
              refine J.plain ?_
              refine JO.t (ob_move rfl) rfl ?_
              refine JO.t (ob_addc (cc := ((i + 1 : Nat) : Int)) rfl rfl (by omega) (by omega) (by omega)) rfl ?_
              refine JO.t (ob_assign rfl) rfl ?_
              refine JO.nil ?_
              repeat refine JX.normal_block ?_
              refine JX.roundG (x := ⟨i, xs, st, cp⟩) (i + 1, xs ++ [l.getD i 0], st1, cp1) ?_ ?_ [0, 2, 4, 7, 8] ?_ ?_ ?_ ?_
              · exact ⟨by omega, by show (xs ++ _) ++ _ = _; rw [← hxs, unesc_step (i := i) (by omega), if_neg (fun e => by rw [z_eq.2 e] at ht82; cases ht82), List.append_assoc]; rfl, by simp; omega, hG1⟩
              · exact (by simp only; omega)
              · exact (.cons rfl (.cons rfl (.cons rfl (.cons rfl (.cons rfl .nil)))))
              · repeat (first | exact .all | exact .nil | refine Has.own (by repeat (first | exact .here | apply Tl.past | apply Tl.there)) ?_ | refine Has.cons (by repeat (first | exact .here | apply Pk.past | apply Pk.there)) ?_)
              · exact fun G hG => by repeat (first | exact hG | refine List.mem_cons_of_mem _ ?_)
              · exact fun _ _ _ => fun _ _ => trivial
          ·
            try simp only [decide_eq_true_eq, decide_eq_false_iff_not] at ht68
            repeat refine J.seq ?_
            refine J.exit ?_
            repeat (first | refine JX.hit ?_ | refine JX.miss rfl ?_ | refine JX.exit_pass ?_)
            repeat (first | refine JX.next ?_ | refine JX.normal_block ?_)
            refine J.freezeO bC_len hG (e := ty_uint8) (by repeat (first | exact .here | apply Tl.past | apply Tl.there)) (fun _ h => h) rfl rfl ?_
            obtain ⟨cpx, _, hsl⟩ := sliceO_adC hG
            refine J.coer (s := 7) (T' := .is (.slice (adO st) xs.length cpx)) rfl (Sub.isEq hsl) ?_
            have hxe : xs = unesc (l.drop 1) := by rw [← hxs, unesc_short (l := l.drop i) (by rw [List.length_drop]; omega), List.append_nil]
            repeat refine J.seq ?_
            refine J.plain ?_
            refine JO.t (ob_move rfl) rfl ?_
            refine JO.t (ob_str un_sl_uint8 un_uint8 un_string rfl (by repeat (first | exact List.mem_cons_self | apply List.mem_cons_of_mem))) rfl ?_
            refine JO.t (ob_fieldAddr fo_api_Value_2 rfl) rfl ?_
            refine JO.m (obm_storeF (cs' := [_, _, _]) rfl rfl (by repeat (first | exact .here | apply Upd.there)) rfl rfl rfl rfl ss_string) (by rfl) ?_
            refine JO.nil ?_
            repeat (first | refine JX.next ?_ | refine JX.normal_block ?_)
            refine J.sel [0, 2, 4] (.cons rfl (.cons rfl (.cons rfl .nil))) ?_
            have hc := (show candB l = _ by unfold candB; rw [if_neg (by rw [ht29]; simp), if_neg (by rw [ht55]; simp), if_pos ht63, ← hxe])
            refine J.coerO (e := ty_api_Value) (b := b4) (T' := .is (.agg #[.int .i64 (candB l).k, .int .i64 (candB l).n, .string (candB l).s])) (by repeat (first | exact .here | apply Upd.there)) (Sub.isEq (by first | (rw [hc]; done) | (rw [hc]; rfl))) ?_
            repeat refine J.seq ?_
            refine J.plain ?_
            refine JO.t (ob_ldN (cs := [_, _, _]) sz_api_Value rfl rfl rfl) rfl ?_
            refine JO.t (ob_call rfl (c_ref01_Key (candB l) (candB_rng l)) (.one rfl .nil)) rfl ?_
            refine JO.t (ob_move rfl) rfl ?_
            refine JO.t (ob_extract0 rfl) rfl ?_
            refine JO.t (ob_extract1 rfl) rfl ?_
            refine JO.t (ob_assign rfl) rfl ?_
            refine JO.t (ob_assign rfl) rfl ?_
            refine JO.nil ?_
            repeat (first | refine JX.next ?_ | refine JX.normal_block ?_)
            refine J.sel [0, 2, 4, 9, 10] (.cons rfl (.cons rfl (.cons rfl (.cons rfl (.cons rfl .nil))))) ?_
            refine J.openSlC (s := 9) rfl (fun a5 n5 c5 q5 o5 hl5 ha5 hc5 => ?_)
            repeat refine J.seq ?_
            refine J.reg0 hmx (by kernel_rfl) (by kernel_rfl) ?_
            refine RT.t (ob_move rfl) ?_
            refine RT.t (ob_neq rfl rfl) ?_
            refine RT.t (ob_move rfl) ?_
            refine RT.g rfl rfl rfl (fun hg => ob_move (.inl rfl)) ?_
            refine RT.g rfl rfl rfl (fun hg => ob_str un_sl_uint8 un_uint8 un_string (.inr ⟨_, rfl, fun h => h⟩) (by repeat (first | exact List.mem_cons_self | apply List.mem_cons_of_mem))) ?_
            refine RT.g rfl rfl rfl (fun hg => ob_move (.inl rfl)) ?_
            refine RT.g rfl rfl rfl (fun hg => ob_str un_sl_uint8 un_uint8 un_string (.inr ⟨_, rfl, fun h => h⟩) (by repeat (first | exact List.mem_cons_self | apply List.mem_cons_of_mem))) ?_
            refine RT.g rfl rfl rfl (fun hg => ob_sneq (.inr ⟨_, rfl, fun h => h⟩) (.inr ⟨_, rfl, fun h => h⟩)) ?_
            refine RT.t (ob_pickOr rfl rfl rfl id) ?_
            refine RT.nil ?_
            refine FinS.nil0 ?_
            repeat (first | refine JX.next ?_ | refine JX.normal_block ?_)
            refine J.sel [2, 4, 101] (.cons rfl (.cons rfl (.cons rfl .nil))) ?_
            repeat refine J.seq ?_
            refine J.cond rfl (fun ht101 => ?_) (fun ht101 => ?_)
            ·
              try simp only [decide_eq_true_eq, decide_eq_false_iff_not] at ht101
              repeat refine J.seq ?_
              refine J.plain ?_
              refine JO.t (ob_build (cs := [_, _, _]) sh_api_Value .nil rfl rfl) rfl ?_
              refine JO.m (obm_store rfl rfl (by repeat (first | exact .here | apply Upd.there)) (by first | exact cnt_is rfl rfl | exact cnt_ex) (by first | exact cnt_is rfl rfl | exact cnt_ex | exact cnt_aggO) ss_api_Value) (by rfl) ?_
              refine JO.t (ob_assign rfl) rfl ?_
              refine JO.nil ?_
              repeat (first | refine JX.next ?_ | refine JX.normal_block ?_)
              refine J.sel [2, 3] (.cons rfl (.cons rfl .nil)) ?_
              repeat refine J.seq ?_
              refine J.ret ?_
              repeat (first | refine JX.ret_pass ?_ | refine JX.ret_block ?_)
              exact JX.retC1is rfl rfl sz_api_Value HasOwn.mem rfl rfl (by rw [← fkB_eq, fk_yes ht101]) (by rw [← fkB_eq, fk_yes ht101])
            ·
              try simp only [decide_eq_true_eq, decide_eq_false_iff_not] at ht101
              refine J.skip ?_
              repeat (first | refine JX.next ?_ | refine JX.normal_block ?_)
              repeat refine J.seq ?_
              refine J.plain ?_
              refine JO.t (ob_ldN (cs := [_, _, _]) sz_api_Value rfl rfl rfl) rfl ?_
              refine JO.m (obm_store rfl rfl (by repeat (first | exact .here | apply Upd.there)) (by first | exact cnt_is rfl rfl | exact cnt_ex) (by first | exact cnt_is rfl rfl | exact cnt_ex | exact cnt_aggO) ss_api_Value) (by rfl) ?_
              refine JO.t (ob_assign rfl) rfl ?_
              refine JO.nil ?_
              repeat (first | refine JX.next ?_ | refine JX.normal_block ?_)
              refine J.sel [2, 3] (.cons rfl (.cons rfl .nil)) ?_
              repeat refine J.seq ?_
              refine J.ret ?_
              repeat (first | refine JX.ret_pass ?_ | refine JX.ret_block ?_)
              exact JX.retC1is rfl rfl sz_api_Value HasOwn.mem rfl rfl (by rw [← fkB_eq, fk_no ht101]) (by rw [← fkB_eq, fk_no ht101])
        ·
          try simp only [decide_eq_true_eq, decide_eq_false_iff_not] at ht63
          refine J.skip ?_
          repeat (first | refine JX.next ?_ | refine JX.normal_block ?_)
          have hc := (show candB l = _ by unfold candB; rw [if_neg (by rw [ht29]; simp), if_neg (by rw [ht55]; simp), if_neg (by rw [ht63]; simp)])
          refine J.coerO (e := ty_api_Value) (b := b4) (T' := .is (.agg #[.int .i64 (candB l).k, .int .i64 (candB l).n, .string (candB l).s])) (by repeat (first | exact .here | apply Upd.there)) (Sub.isEq (by first | (rw [hc]; done) | (rw [hc]; rfl))) ?_
          repeat refine J.seq ?_
          refine J.plain ?_
          refine JO.t (ob_ldN (cs := [_, _, _]) sz_api_Value rfl rfl rfl) rfl ?_
          refine JO.t (ob_call rfl (c_ref01_Key (candB l) (candB_rng l)) (.one rfl .nil)) rfl ?_
          refine JO.t (ob_move rfl) rfl ?_
          refine JO.t (ob_extract0 rfl) rfl ?_
          refine JO.t (ob_extract1 rfl) rfl ?_
          refine JO.t (ob_assign rfl) rfl ?_
          refine JO.t (ob_assign rfl) rfl ?_
          refine JO.nil ?_
          repeat (first | refine JX.next ?_ | refine JX.normal_block ?_)
          refine J.sel [0, 2, 4, 9, 10] (.cons rfl (.cons rfl (.cons rfl (.cons rfl (.cons rfl .nil))))) ?_
          refine J.openSlC (s := 9) rfl (fun a5 n5 c5 q5 o5 hl5 ha5 hc5 => ?_)
          repeat refine J.seq ?_
          refine J.reg0 hmx (by kernel_rfl) (by kernel_rfl) ?_
          refine RT.t (ob_move rfl) ?_
          refine RT.t (ob_neq rfl rfl) ?_
          refine RT.t (ob_move rfl) ?_
          refine RT.g rfl rfl rfl (fun hg => ob_move (.inl rfl)) ?_
          refine RT.g rfl rfl rfl (fun hg => ob_str un_sl_uint8 un_uint8 un_string (.inr ⟨_, rfl, fun h => h⟩) (by repeat (first | exact List.mem_cons_self | apply List.mem_cons_of_mem))) ?_
          refine RT.g rfl rfl rfl (fun hg => ob_move (.inl rfl)) ?_
          refine RT.g rfl rfl rfl (fun hg => ob_str un_sl_uint8 un_uint8 un_string (.inr ⟨_, rfl, fun h => h⟩) (by repeat (first | exact List.mem_cons_self | apply List.mem_cons_of_mem))) ?_
          refine RT.g rfl rfl rfl (fun hg => ob_sneq (.inr ⟨_, rfl, fun h => h⟩) (.inr ⟨_, rfl, fun h => h⟩)) ?_
          refine RT.t (ob_pickOr rfl rfl rfl id) ?_
          refine RT.nil ?_
          refine FinS.nil0 ?_
          repeat (first | refine JX.next ?_ | refine JX.normal_block ?_)
          refine J.sel [2, 4, 101] (.cons rfl (.cons rfl (.cons rfl .nil))) ?_
          repeat refine J.seq ?_
          refine J.cond rfl (fun ht101 => ?_) (fun ht101 => ?_)
          ·
            try simp only [decide_eq_true_eq, decide_eq_false_iff_not] at ht101
            repeat refine J.seq ?_
            refine J.plain ?_
            refine JO.t (ob_build (cs := [_, _, _]) sh_api_Value .nil rfl rfl) rfl ?_
            refine JO.m (obm_store rfl rfl (by repeat (first | exact .here | apply Upd.there)) (by first | exact cnt_is rfl rfl | exact cnt_ex) (by first | exact cnt_is rfl rfl | exact cnt_ex | exact cnt_aggO) ss_api_Value) (by rfl) ?_
            refine JO.t (ob_assign rfl) rfl ?_
            refine JO.nil ?_
            repeat (first | refine JX.next ?_ | refine JX.normal_block ?_)
            refine J.sel [2, 3] (.cons rfl (.cons rfl .nil)) ?_
            repeat refine J.seq ?_
            refine J.ret ?_
            repeat (first | refine JX.ret_pass ?_ | refine JX.ret_block ?_)
            exact JX.retC1is rfl rfl sz_api_Value HasOwn.mem rfl rfl (by rw [← fkB_eq, fk_yes ht101]) (by rw [← fkB_eq, fk_yes ht101])
          ·
            try simp only [decide_eq_true_eq, decide_eq_false_iff_not] at ht101
            refine J.skip ?_
            repeat (first | refine JX.next ?_ | refine JX.normal_block ?_)
            repeat refine J.seq ?_
            refine J.plain ?_
            refine JO.t (ob_ldN (cs := [_, _, _]) sz_api_Value rfl rfl rfl) rfl ?_
            refine JO.m (obm_store rfl rfl (by repeat (first | exact .here | apply Upd.there)) (by first | exact cnt_is rfl rfl | exact cnt_ex) (by first | exact cnt_is rfl rfl | exact cnt_ex | exact cnt_aggO) ss_api_Value) (by rfl) ?_
            refine JO.t (ob_assign rfl) rfl ?_
            refine JO.nil ?_
            repeat (first | refine JX.next ?_ | refine JX.normal_block ?_)
            refine J.sel [2, 3] (.cons rfl (.cons rfl .nil)) ?_
            repeat refine J.seq ?_
            refine J.ret ?_
            repeat (first | refine JX.ret_pass ?_ | refine JX.ret_block ?_)
            exact JX.retC1is rfl rfl sz_api_Value HasOwn.mem rfl rfl (by rw [← fkB_eq, fk_no ht101]) (by rw [← fkB_eq, fk_no ht101])
end Go.Proofs.YtlccnpmhmdoapaaDoor
