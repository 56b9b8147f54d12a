/- value: the reader of tuples. No condition. -/
import Derived.Test.YtlccnpmhmdoapaaDoorXRD
import Derived.Test.YtlccnpmhmdoapaaDoorXG4
set_option maxRecDepth 20000
namespace Go.Proofs.YtlccnpmhmdoapaaDoor
open Go Go.Vc
open Go.Vl
theorem rep_cells (n : Nat) : List.replicate n (Value.int .u8 0) = (List.replicate n (0 : UInt8)).flatMap bC := by
  induction n with
  | zero => rfl
  | succ n ih => rw [List.replicate_succ, List.replicate_succ, List.flatMap_cons, ← ih]; rfl
theorem c_p_value_reader_take (l : List UInt8) (e : Int) (n : Nat) (hn : n ≤ 255) : CallMT Tryd.prog f_p_value_reader_take ty_value_reader (.rep (RdR l e)) [] [.is (.int .i64 (n : Nat))] (.rep (RdR (tkR l e n) (tkE l e n))) (.rep (SlC bC 1 (tkL l e n))) :=
CallMT.of (fn := Tryd.f39) Tryd.func39 (n := 46) rfl rfl rfl (fun _ _ => by kernel_rfl) fun E W b0 hb0 => by
  refine J.openRd (l := l) (e := e) (C := fun T => [⟨b0, ty_value_reader, T⟩]) (fun T => .here) (fun a len cap hlen hlc => ?_)
  subst hlen
  repeat refine J.seq ?_
  refine J.plain ?_
  refine JO.t (ob_assign rfl) rfl ?_
  refine JO.nil ?_
  repeat (first | refine JX.next ?_ | refine JX.normal_block ?_)
  refine J.sel [0, 1] (.cons rfl (.cons rfl .nil)) ?_
  repeat refine J.seq ?_
  refine J.reg0 hmx (by kernel_rfl) (by kernel_rfl) ?_
  refine RT.t (ob_move rfl) ?_
  refine RT.t (ob_nilCheck rfl) ?_
  refine RT.t (ob_fieldAddr fo_value_reader_1 rfl) ?_
  refine RT.t (ob_ld1 sz_api_Errno rfl rfl) ?_
  refine RT.t (ob_eql rfl rfl) ?_
  refine RT.t (ob_move rfl) ?_
  refine RT.g rfl rfl rfl (fun hg => ob_move (.inl rfl)) ?_
  refine RT.g rfl rfl rfl (fun hg => ob_nilCheck (.inr ⟨_, rfl, fun h => h⟩)) ?_
  refine RT.g rfl rfl rfl (fun hg => ob_fieldAddr fo_value_reader_0 (.inr ⟨_, rfl, fun h => h⟩)) ?_
  refine RT.g rfl rfl rfl (fun hg => ob_ld1 sz_sl_uint8 (.inr ⟨_, rfl, fun h => h⟩) rfl) ?_
  refine RT.g rfl rfl rfl (fun hg => ob_len un_sl_uint8 (.inr ⟨_, rfl, fun h => h⟩)) ?_
  refine RT.g rfl rfl rfl (fun hg => ob_move (.inl rfl)) ?_
  refine RT.g rfl rfl rfl (fun hg => ob_lss (.inr ⟨_, rfl, fun h => h⟩) (.inr ⟨_, rfl, fun h => h⟩)) ?_
  refine RT.t (ob_pickAnd rfl rfl rfl id) ?_
  refine RT.nil ?_
  refine FinS.nil0 ?_
  repeat (first | refine JX.next ?_ | refine JX.normal_block ?_)
  refine J.sel [0, 1, 19] (.cons rfl (.cons rfl (.cons rfl .nil))) ?_
  repeat refine J.seq ?_
  refine J.cond rfl (fun ht19 => ?_) (fun ht19 => ?_)
  ·
    try simp only [decide_eq_true_eq, decide_eq_false_iff_not] at ht19
    have hqe : tkE l e n = 5 := by unfold tkE; rw [if_pos ht19]
    repeat refine J.seq ?_
    refine J.plain ?_
    refine JO.t (ob_move rfl) rfl ?_
    refine JO.t (ob_nilCheck rfl) rfl ?_
    refine JO.t (ob_fieldAddr fo_value_reader_1 rfl) rfl ?_
    refine JO.m (obm_storeF (cs' := [_, _]) rfl rfl (by repeat (first | exact .here | apply Upd.there)) rfl rfl rfl rfl ss_api_Errno) (by rfl) ?_
    refine JO.nil ?_
    repeat (first | refine JX.next ?_ | refine JX.normal_block ?_)
    refine J.sel [0, 1] (.cons rfl (.cons rfl .nil)) ?_
    repeat refine J.seq ?_
    refine J.plain ?_
    refine JO.t (ob_move rfl) rfl ?_
    refine JO.t (ob_nilCheck rfl) rfl ?_
    refine JO.t (ob_fieldAddr fo_value_reader_1 rfl) rfl ?_
    refine JO.t (ob_ld1 sz_api_Errno rfl rfl) rfl ?_
    refine JO.t (ob_neq rfl rfl) rfl ?_
    refine JO.nil ?_
    repeat (first | refine JX.next ?_ | refine JX.normal_block ?_)
    refine J.sel [0, 1, 27] (.cons rfl (.cons rfl (.cons rfl .nil))) ?_
    repeat refine J.seq ?_
    refine J.cond rfl (fun ht27 => ?_) (fun ht27 => ?_)
    ·
      try simp only [decide_eq_true_eq, decide_eq_false_iff_not] at ht27
      skip
      have hq := tk_bad hqe ht27
      repeat refine J.seq ?_
      refine J.plain ?_
      refine JO.t (ob_move rfl) rfl ?_
      refine JO.mkSl1 (z := .int .u8 0) (bytes := 1) (n := n) un_sl_uint8 (by kernel_rfl) rfl rfl rfl rfl rfl (by omega) (by omega) rfl (fun b29 => ?_)
      refine JO.freezeM (b := b29) (e := ty_uint8) (fun q hq => ⟨_, List.mem_cons_self, hq.symm⟩) rfl rfl ?_
      refine JO.fact (RowG bC 1 (List.replicate n (0 : UInt8)) (some ⟨b29, 0, none⟩) n) (fun E w hF _ => fun w1 hk => row_own bC_len (by simp) (by rw [Nat.mul_one, List.take_of_length_le (by simp)]; exact rep_cells n) (hF _ List.mem_cons_self w1 hk)) ?_
      refine JO.t (ob_assign rfl) rfl ?_
      refine JO.nil ?_
      repeat (first | refine JX.next ?_ | refine JX.normal_block ?_)
      refine J.sel [4] (.cons rfl .nil) ?_
      repeat refine J.seq ?_
      refine J.ret ?_
      repeat (first | refine JX.ret_pass ?_ | refine JX.ret_block ?_)
      exact JX.retMT1 rfl rfl rfl hb0 List.mem_cons_self (by rw [hq.1, hqe]; exact Sub.rd (by repeat (first | exact List.mem_cons_self | apply List.mem_cons_of_mem)) hlc) rfl (by rw [hq.2]; exact Sub.slFactC (by repeat (first | exact List.mem_cons_self | apply List.mem_cons_of_mem)) (Nat.le_refl _))
    ·
      try simp only [decide_eq_true_eq, decide_eq_false_iff_not] at ht27
      refine J.skip ?_
      repeat (first | refine JX.next ?_ | refine JX.normal_block ?_)
      skip
      have hq := tk_ok hqe ht27
      have hn0 := (tkE_0 (l := l) (e := e) (n := n) (by rw [hqe]; exact ht27)).2
      refine J.fact (RowG bC 1 (l.take n) a n) (fun E w hF _ => fun w1 hk => rowG_take (hF (RowG bC 1 l a l.length) (by repeat (first | exact List.mem_cons_self | apply List.mem_cons_of_mem)) w1 hk) hn0) ?_
      refine J.fact (RowG bC 1 (l.drop n) (adS a n cap 1) (l.length - n)) (fun E w hF _ => fun w1 hk => rowG_drop (hF (RowG bC 1 l a l.length) (by repeat (first | exact List.mem_cons_self | apply List.mem_cons_of_mem)) w1 hk) hlc hn0) ?_
      repeat refine J.seq ?_
      refine J.plain ?_
      refine JO.t (ob_move rfl) rfl ?_
      refine JO.t (ob_nilCheck rfl) rfl ?_
      refine JO.t (ob_fieldAddr fo_value_reader_0 rfl) rfl ?_
      refine JO.t (ob_ld1 sz_sl_uint8 rfl rfl) rfl ?_
      refine JO.t (ob_move rfl) rfl ?_
      refine JO.t (ob_sliceHi un_sl_uint8 el_sl_uint8 rfl rfl (by omega) (by omega)) rfl ?_
      refine JO.t (ob_assign rfl) rfl ?_
      refine JO.nil ?_
      repeat (first | refine JX.next ?_ | refine JX.normal_block ?_)
      refine J.sel [0, 1, 5] (.cons rfl (.cons rfl (.cons rfl .nil))) ?_
      repeat refine J.seq ?_
      refine J.plain ?_
      refine JO.t (ob_move rfl) rfl ?_
      refine JO.t (ob_move rfl) rfl ?_
      refine JO.t (ob_nilCheck rfl) rfl ?_
      refine JO.t (ob_fieldAddr fo_value_reader_0 rfl) rfl ?_
      refine JO.t (ob_ld1 sz_sl_uint8 rfl rfl) rfl ?_
      refine JO.t (ob_move rfl) rfl ?_
      refine JO.t (ob_sliceLo un_sl_uint8 el_sl_uint8 rfl rfl (by omega) (by omega)) rfl ?_
      refine JO.t (ob_nilCheck rfl) rfl ?_
      refine JO.t (ob_fieldAddr fo_value_reader_0 rfl) rfl ?_
      refine JO.m (obm_storeF (cs' := [_, _]) rfl rfl (by repeat (first | exact .here | apply Upd.there)) rfl rfl rfl rfl ss_sl_uint8) (by rfl) ?_
      refine JO.nil ?_
      repeat (first | refine JX.next ?_ | refine JX.normal_block ?_)
      refine J.sel [5] (.cons rfl .nil) ?_
      repeat refine J.seq ?_
      refine J.plain ?_
      refine JO.t (ob_move rfl) rfl ?_
      refine JO.t (ob_assign rfl) rfl ?_
      refine JO.nil ?_
      repeat (first | refine JX.next ?_ | refine JX.normal_block ?_)
      refine J.sel [4] (.cons rfl .nil) ?_
      repeat refine J.seq ?_
      refine J.ret ?_
      repeat (first | refine JX.ret_pass ?_ | refine JX.ret_block ?_)
      exact JX.retMT1 rfl rfl rfl hb0 List.mem_cons_self (by rw [hq.1, hqe]; exact Sub.rd (by repeat (first | exact List.mem_cons_self | apply List.mem_cons_of_mem)) (by omega)) rfl (by rw [hq.2]; exact Sub.slFactC (by repeat (first | exact List.mem_cons_self | apply List.mem_cons_of_mem)) (by omega))
  ·
    try simp only [decide_eq_true_eq, decide_eq_false_iff_not] at ht19
    refine J.skip ?_
    repeat (first | refine JX.next ?_ | refine JX.normal_block ?_)
    repeat refine J.seq ?_
    refine J.plain ?_
    refine JO.t (ob_move rfl) rfl ?_
    refine JO.t (ob_nilCheck rfl) rfl ?_
    refine JO.t (ob_fieldAddr fo_value_reader_1 rfl) rfl ?_
    refine JO.t (ob_ld1 sz_api_Errno rfl rfl) rfl ?_
    refine JO.t (ob_neq rfl rfl) rfl ?_
    refine JO.nil ?_
    repeat (first | refine JX.next ?_ | refine JX.normal_block ?_)
    refine J.sel [0, 1, 27] (.cons rfl (.cons rfl (.cons rfl .nil))) ?_
    repeat refine J.seq ?_
    refine J.cond rfl (fun ht27 => ?_) (fun ht27 => ?_)
    ·
      try simp only [decide_eq_true_eq, decide_eq_false_iff_not] at ht27
      have hqe : tkE l e n = e := by unfold tkE; rw [if_neg (by rw [ht19]; simp)]
      have hq := tk_bad hqe ht27
      repeat refine J.seq ?_
      refine J.plain ?_
      refine JO.t (ob_move rfl) rfl ?_
      refine JO.mkSl1 (z := .int .u8 0) (bytes := 1) (n := n) un_sl_uint8 (by kernel_rfl) rfl rfl rfl rfl rfl (by omega) (by omega) rfl (fun b29 => ?_)
      refine JO.freezeM (b := b29) (e := ty_uint8) (fun q hq => ⟨_, List.mem_cons_self, hq.symm⟩) rfl rfl ?_
      refine JO.fact (RowG bC 1 (List.replicate n (0 : UInt8)) (some ⟨b29, 0, none⟩) n) (fun E w hF _ => fun w1 hk => row_own bC_len (by simp) (by rw [Nat.mul_one, List.take_of_length_le (by simp)]; exact rep_cells n) (hF _ List.mem_cons_self w1 hk)) ?_
      refine JO.t (ob_assign rfl) rfl ?_
      refine JO.nil ?_
      repeat (first | refine JX.next ?_ | refine JX.normal_block ?_)
      refine J.sel [4] (.cons rfl .nil) ?_
      repeat refine J.seq ?_
      refine J.ret ?_
      repeat (first | refine JX.ret_pass ?_ | refine JX.ret_block ?_)
      exact JX.retMT1 rfl rfl rfl hb0 List.mem_cons_self (by rw [hq.1, hqe]; exact Sub.rd (by repeat (first | exact List.mem_cons_self | apply List.mem_cons_of_mem)) hlc) rfl (by rw [hq.2]; exact Sub.slFactC (by repeat (first | exact List.mem_cons_self | apply List.mem_cons_of_mem)) (Nat.le_refl _))
    ·
      try simp only [decide_eq_true_eq, decide_eq_false_iff_not] at ht27
      refine J.skip ?_
      repeat (first | refine JX.next ?_ | refine JX.normal_block ?_)
      have hqe : tkE l e n = e := by unfold tkE; rw [if_neg (by rw [ht19]; simp)]
      have hq := tk_ok hqe ht27
      have hn0 := (tkE_0 (l := l) (e := e) (n := n) (by rw [hqe]; exact ht27)).2
      refine J.fact (RowG bC 1 (l.take n) a n) (fun E w hF _ => fun w1 hk => rowG_take (hF (RowG bC 1 l a l.length) (by repeat (first | exact List.mem_cons_self | apply List.mem_cons_of_mem)) w1 hk) hn0) ?_
      refine J.fact (RowG bC 1 (l.drop n) (adS a n cap 1) (l.length - n)) (fun E w hF _ => fun w1 hk => rowG_drop (hF (RowG bC 1 l a l.length) (by repeat (first | exact List.mem_cons_self | apply List.mem_cons_of_mem)) w1 hk) hlc hn0) ?_
      repeat refine J.seq ?_
      refine J.plain ?_
      refine JO.t (ob_move rfl) rfl ?_
      refine JO.t (ob_nilCheck rfl) rfl ?_
      refine JO.t (ob_fieldAddr fo_value_reader_0 rfl) rfl ?_
      refine JO.t (ob_ld1 sz_sl_uint8 rfl rfl) rfl ?_
      refine JO.t (ob_move rfl) rfl ?_
      refine JO.t (ob_sliceHi un_sl_uint8 el_sl_uint8 rfl rfl (by omega) (by omega)) rfl ?_
      refine JO.t (ob_assign rfl) rfl ?_
      refine JO.nil ?_
      repeat (first | refine JX.next ?_ | refine JX.normal_block ?_)
      refine J.sel [0, 1, 5] (.cons rfl (.cons rfl (.cons rfl .nil))) ?_
      repeat refine J.seq ?_
      refine J.plain ?_
      refine JO.t (ob_move rfl) rfl ?_
      refine JO.t (ob_move rfl) rfl ?_
      refine JO.t (ob_nilCheck rfl) rfl ?_
      refine JO.t (ob_fieldAddr fo_value_reader_0 rfl) rfl ?_
      refine JO.t (ob_ld1 sz_sl_uint8 rfl rfl) rfl ?_
      refine JO.t (ob_move rfl) rfl ?_
      refine JO.t (ob_sliceLo un_sl_uint8 el_sl_uint8 rfl rfl (by omega) (by omega)) rfl ?_
      refine JO.t (ob_nilCheck rfl) rfl ?_
      refine JO.t (ob_fieldAddr fo_value_reader_0 rfl) rfl ?_
      refine JO.m (obm_storeF (cs' := [_, _]) rfl rfl (by repeat (first | exact .here | apply Upd.there)) rfl rfl rfl rfl ss_sl_uint8) (by rfl) ?_
      refine JO.nil ?_
      repeat (first | refine JX.next ?_ | refine JX.normal_block ?_)
      refine J.sel [5] (.cons rfl .nil) ?_
      repeat refine J.seq ?_
      refine J.plain ?_
      refine JO.t (ob_move rfl) rfl ?_
      refine JO.t (ob_assign rfl) rfl ?_
      refine JO.nil ?_
      repeat (first | refine JX.next ?_ | refine JX.normal_block ?_)
      refine J.sel [4] (.cons rfl .nil) ?_
      repeat refine J.seq ?_
      refine J.ret ?_
      repeat (first | refine JX.ret_pass ?_ | refine JX.ret_block ?_)
      exact JX.retMT1 rfl rfl rfl hb0 List.mem_cons_self (by rw [hq.1, hqe]; exact Sub.rd (by repeat (first | exact List.mem_cons_self | apply List.mem_cons_of_mem)) (by omega)) rfl (by rw [hq.2]; exact Sub.slFactC (by repeat (first | exact List.mem_cons_self | apply List.mem_cons_of_mem)) (by omega))
theorem c_p_value_reader_must (l : List UInt8) (e : Int) (ok : Bool) : CallMT Tryd.prog f_p_value_reader_must ty_value_reader (.rep (RdR l e)) [] [.is (.bool ok)] (.rep (RdR l (muE e ok))) (.is (.tuple #[])) :=
CallMT.of (fn := Tryd.f41) Tryd.func41 (n := 16) rfl rfl rfl (fun _ _ => by kernel_rfl) fun E W b0 hb0 => by
  refine J.openRd (l := l) (e := e) (C := fun T => [⟨b0, ty_value_reader, T⟩]) (fun T => .here) (fun a len cap hlen hlc => ?_)
  subst hlen
  repeat refine J.seq ?_
  refine J.reg0 hmx (by kernel_rfl) (by kernel_rfl) ?_
  refine RT.t (ob_move rfl) ?_
  refine RT.t (ob_nilCheck rfl) ?_
  refine RT.t (ob_fieldAddr fo_value_reader_1 rfl) ?_
  refine RT.t (ob_ld1 sz_api_Errno rfl rfl) ?_
  refine RT.t (ob_eql rfl rfl) ?_
  refine RT.t (ob_move rfl) ?_
  refine RT.g rfl rfl rfl (fun hg => ob_move (.inl rfl)) ?_
  refine RT.g rfl rfl rfl (fun hg => ob_not (.inr ⟨_, rfl, fun h => h⟩)) ?_
  refine RT.t (ob_pickAnd rfl rfl rfl id) ?_
  refine RT.nil ?_
  refine FinS.nil0 ?_
  repeat (first | refine JX.next ?_ | refine JX.normal_block ?_)
  refine J.sel [0, 12] (.cons rfl (.cons rfl .nil)) ?_
  repeat refine J.seq ?_
  refine J.cond rfl (fun ht12 => ?_) (fun ht12 => ?_)
  ·
    try simp only [decide_eq_true_eq, decide_eq_false_iff_not] at ht12
    repeat refine J.seq ?_
    refine J.plain ?_
    refine JO.t (ob_move rfl) rfl ?_
    refine JO.t (ob_nilCheck rfl) rfl ?_
    refine JO.t (ob_fieldAddr fo_value_reader_1 rfl) rfl ?_
    refine JO.m (obm_storeF (cs' := [_, _]) rfl rfl (by repeat (first | exact .here | apply Upd.there)) rfl rfl rfl rfl ss_api_Errno) (by rfl) ?_
    refine JO.nil ?_
    repeat (first | refine JX.next ?_ | refine JX.normal_block ?_)
    exact JX.normal_ret (JX.retMT0 rfl rfl hb0 List.mem_cons_self (by unfold muE; rw [if_pos ht12]; exact Sub.rd (by repeat (first | exact List.mem_cons_self | apply List.mem_cons_of_mem)) hlc))
  ·
    try simp only [decide_eq_true_eq, decide_eq_false_iff_not] at ht12
    refine J.skip ?_
    repeat (first | refine JX.next ?_ | refine JX.normal_block ?_)
    exact JX.normal_ret (JX.retMT0 rfl rfl hb0 List.mem_cons_self (by unfold muE; rw [if_neg (by rw [ht12]; simp)]; exact Sub.rd (by repeat (first | exact List.mem_cons_self | apply List.mem_cons_of_mem)) hlc))
theorem rv_1 {l : List UInt8} (h : ((kb l : Int) == 1) = true) : rv l = (⟨kb l, sgnI (leV (tkL (l1 l) (e1 l) 8)), e0⟩, tkR (l1 l) (e1 l) 8, tkE (l1 l) (e1 l) 8) := by unfold rv; rw [if_pos h]
theorem rv_2 {l : List UInt8} (h : ((kb l : Int) == 1) = false) (h2 : ((kb l : Int) == 2) = true) : rv l = (⟨kb l, cb l, e0⟩, l2 l, e2 l 1) := by unfold rv; rw [if_neg (by rw [h]; simp), if_pos h2]
theorem rv_3 {l : List UInt8} (h : ((kb l : Int) == 1) = false) (h2 : ((kb l : Int) == 2) = false) (h3 : ((kb l : Int) == 3) = true) : rv l = (⟨kb l, 0, bl (tkL (l2 l) (e2 l 64) (cb l))⟩, tkR (l2 l) (e2 l 64) (cb l), tkE (l2 l) (e2 l 64) (cb l)) := by unfold rv; rw [if_neg (by rw [h]; simp), if_neg (by rw [h2]; simp), if_pos h3]
theorem rv_4 {l : List UInt8} (h : ((kb l : Int) == 1) = false) (h2 : ((kb l : Int) == 2) = false) (h3 : ((kb l : Int) == 3) = false) : rv l = (⟨kb l, 0, e0⟩, l1 l, e1 l) := by unfold rv; rw [if_neg (by rw [h]; simp), if_neg (by rw [h2]; simp), if_neg (by rw [h3]; simp)]
theorem c_p_value_reader_value (l : List UInt8) : CallMT Tryd.prog f_p_value_reader_value ty_value_reader (.rep (RdR l 0)) [] [] (.rep (RdR (rv l).2.1 (rv l).2.2)) (.is (.agg #[.int .i64 (rv l).1.k, .int .i64 (rv l).1.n, .string (rv l).1.s])) :=
CallMT.of (fn := Tryd.f40) Tryd.func40 (n := 55) rfl rfl rfl (fun _ _ => by kernel_rfl) fun E W b0 hb0 => by
  have hcb : cb l < 256 := UInt8.toNat_lt _
  have hkb : kb l < 256 := UInt8.toNat_lt _
  repeat refine J.seq ?_
  refine J.plain ?_
  refine JO.alloc zo_api_Value rfl fun b2 => ?_
  refine JO.nil ?_
  repeat (first | refine JX.next ?_ | refine JX.normal_block ?_)
  refine J.sel [0, 2] (.cons rfl (.cons rfl .nil)) ?_
  repeat refine J.seq ?_
  refine J.plain ?_
  refine JO.t (ob_move rfl) rfl ?_
  refine JO.md (obm_callT rfl rfl (c_p_value_reader_take l 0 1 (by omega)) (by repeat (first | exact .here | apply Upd.there)) (by simp) (.one rfl .nil)) (by rfl) rfl ?_
  refine JO.openSlC (s := 6) rfl (fun a6 n6 c6 q6 o6 hl6 ha6 hc6 => ?_)
  rw [tkL_len] at hl6
  subst hl6
  refine JO.t (ob_indexAddr el_sl_uint8 rfl (ha6 (by decide)) rfl (by omega) (by omega)) rfl ?_
  refine JO.t (ob_loadG1 (enc := bC) (sz := 1) (len := 1) (i := 0) (j := 0) (xs := tkL l 0 1) (y := (tkL l 0 1).getD 0 0) sz_uint8 rfl (by repeat (first | exact List.mem_cons_self | apply List.mem_cons_of_mem)) (ha6 (by decide)) (u8_get (by rw [tkL_len]; decide)) (by rfl) rfl) rfl ?_
  refine JO.t (ob_convIIe (cc := ((kb l : Nat) : Int)) ⟨_, un_uint8⟩ un_int rfl (wrap64_eq (by omega) (by show ((kb l : Nat) : Int) < _; omega))) rfl ?_
  refine JO.t (ob_build (cs := [_, _, _]) sh_api_Value (.cons rfl .nil) rfl rfl) rfl ?_
  refine JO.alloc zo_api_Value rfl fun b3 => ?_
  refine JO.m (obm_store rfl rfl (by repeat (first | exact .here | apply Upd.there)) (by first | exact cnt_is rfl rfl | exact cnt_ex) (by first | exact cnt_is rfl rfl | exact cnt_ex | exact cnt_aggO) ss_api_Value) (by rfl) ?_
  refine JO.nil ?_
  repeat (first | refine JX.next ?_ | refine JX.normal_block ?_)
  refine J.sel [0, 2, 3] (.cons rfl (.cons rfl (.cons rfl .nil))) ?_
  repeat refine J.seq ?_
  refine J.plain ?_
  refine JO.t (ob_move rfl) rfl ?_
  refine JO.t (ob_fieldAddr fo_api_Value_0 rfl) rfl ?_
  refine JO.t (ob_ld1 sz_int rfl rfl) rfl ?_
  refine JO.t (ob_leq rfl rfl) rfl ?_
  refine JO.md (obm_callT rfl rfl (c_p_value_reader_must (l1 l) (tkE l 0 1) (decide ((kb l : Int) ≤ 3))) (by repeat (first | exact .here | apply Upd.there)) (by simp) (.one rfl .nil)) (by rfl) rfl ?_
  refine JO.nil ?_
  repeat (first | refine JX.next ?_ | refine JX.normal_block ?_)
  refine J.sel [0, 2, 3] (.cons rfl (.cons rfl (.cons rfl .nil))) ?_
  repeat refine J.seq ?_
  refine J.plain ?_
  refine JO.t (ob_fieldAddr fo_api_Value_0 rfl) rfl ?_
  refine JO.t (ob_ld1 sz_int rfl rfl) rfl ?_
  refine JO.nil ?_
  repeat (first | refine JX.next ?_ | refine JX.normal_block ?_)
  refine J.sel [0, 2, 3, 17] (.cons rfl (.cons rfl (.cons rfl (.cons rfl .nil)))) ?_
  repeat refine J.seq ?_
  refine J.block ?_
  repeat refine J.seq ?_
  refine J.plain ?_
  refine JO.t (ob_eql rfl rfl) rfl ?_
  refine JO.t (ob_assign rfl) rfl ?_
  refine JO.nil ?_
  repeat (first | refine JX.next ?_ | refine JX.normal_block ?_)
  refine J.sel [0, 2, 3, 17, 18] (.cons rfl (.cons rfl (.cons rfl (.cons rfl (.cons rfl .nil))))) ?_
  repeat refine J.seq ?_
  refine J.cond rfl (fun ht18 => ?_) (fun ht18 => ?_)
  ·
    try simp only [decide_eq_true_eq, decide_eq_false_iff_not] at ht18
    repeat refine J.seq ?_
    refine J.plain ?_
    refine JO.t (ob_move rfl) rfl ?_
    refine JO.md (obm_callT rfl rfl (c_p_value_reader_take (l1 l) (e1 l) 8 (by omega)) (by repeat (first | exact .here | apply Upd.there)) (by simp) (.one rfl .nil)) (by rfl) rfl ?_
    refine JO.t (ob_call rfl (c_value_number (tkL (l1 l) (e1 l) 8) false (by rw [tkL_len]; omega)) (.one rfl (.one rfl .nil))) rfl ?_
    refine JO.t (ob_convIIe (cc := sgnI (leV (tkL (l1 l) (e1 l) 8))) ⟨_, un_uint64⟩ un_int64 rfl rfl) rfl ?_
    refine JO.t (ob_fieldAddr fo_api_Value_1 rfl) rfl ?_
    refine JO.m (obm_storeF (cs' := [_, _, _]) rfl rfl (by repeat (first | exact .here | apply Upd.there)) rfl rfl rfl rfl ss_int64) (by rfl) ?_
    refine JO.nil ?_
    repeat (first | refine JX.next ?_ | refine JX.normal_block ?_)
    refine J.sel [2, 3] (.cons rfl (.cons rfl .nil)) ?_
    have hrv := rv_1 ht18
    repeat refine J.seq ?_
    refine J.plain ?_
    refine JO.t (ob_ldN (cs := [_, _, _]) sz_api_Value rfl rfl rfl) rfl ?_
    refine JO.m (obm_store rfl rfl (by repeat (first | exact .here | apply Upd.there)) (by first | exact cnt_is rfl rfl | exact cnt_ex) (by first | exact cnt_is rfl rfl | exact cnt_ex | exact cnt_aggO) ss_api_Value) (by rfl) ?_
    refine JO.nil ?_
    repeat (first | refine JX.next ?_ | refine JX.normal_block ?_)
    refine J.sel [2] (.cons rfl .nil) ?_
    repeat refine J.seq ?_
    refine J.ret ?_
    repeat (first | refine JX.ret_pass ?_ | refine JX.ret_block ?_)
    exact JX.retMTC rfl rfl hb0 (by repeat (first | exact List.mem_cons_self | apply List.mem_cons_of_mem)) (by rw [hrv]; exact Sub.refl _) rfl sz_api_Value (by repeat (first | exact List.mem_cons_self | apply List.mem_cons_of_mem)) rfl (by rw [hrv])
  ·
    try simp only [decide_eq_true_eq, decide_eq_false_iff_not] at ht18
    repeat refine J.seq ?_
    refine J.plain ?_
    refine JO.t (ob_eql rfl rfl) rfl ?_
    refine JO.t (ob_assign rfl) rfl ?_
    refine JO.nil ?_
    repeat (first | refine JX.next ?_ | refine JX.normal_block ?_)
    refine J.sel [0, 2, 3, 17, 25] (.cons rfl (.cons rfl (.cons rfl (.cons rfl (.cons rfl .nil))))) ?_
    repeat refine J.seq ?_
    refine J.cond rfl (fun ht25 => ?_) (fun ht25 => ?_)
    ·
      try simp only [decide_eq_true_eq, decide_eq_false_iff_not] at ht25
      repeat refine J.seq ?_
      refine J.plain ?_
      refine JO.t (ob_move rfl) rfl ?_
      refine JO.md (obm_callT rfl rfl (c_p_value_reader_take (l1 l) (e1 l) 1 (by omega)) (by repeat (first | exact .here | apply Upd.there)) (by simp) (.one rfl .nil)) (by rfl) rfl ?_
      refine JO.openSlC (s := 28) rfl (fun a28 n28 c28 q28 o28 hl28 ha28 hc28 => ?_)
      rw [tkL_len] at hl28
      subst hl28
      refine JO.t (ob_indexAddr el_sl_uint8 rfl (ha28 (by decide)) rfl (by omega) (by omega)) rfl ?_
      refine JO.t (ob_loadG1 (enc := bC) (sz := 1) (len := 1) (i := 0) (j := 0) (xs := tkL (l1 l) (e1 l) 1) (y := (tkL (l1 l) (e1 l) 1).getD 0 0) sz_uint8 rfl (by repeat (first | exact List.mem_cons_self | apply List.mem_cons_of_mem)) (ha28 (by decide)) (u8_get (by rw [tkL_len]; decide)) (by rfl) rfl) rfl ?_
      refine JO.t (ob_convIIe (cc := ((cb l : Nat) : Int)) ⟨_, un_uint8⟩ un_int64 rfl (wrap64_eq (by omega) (by show ((cb l : Nat) : Int) < _; omega))) rfl ?_
      refine JO.t (ob_fieldAddr fo_api_Value_1 rfl) rfl ?_
      refine JO.m (obm_storeF (cs' := [_, _, _]) rfl rfl (by repeat (first | exact .here | apply Upd.there)) rfl rfl rfl rfl ss_int64) (by rfl) ?_
      refine JO.nil ?_
      repeat (first | refine JX.next ?_ | refine JX.normal_block ?_)
      refine J.sel [0, 2, 3] (.cons rfl (.cons rfl (.cons rfl .nil))) ?_
      repeat refine J.seq ?_
      refine J.plain ?_
      refine JO.t (ob_move rfl) rfl ?_
      refine JO.t (ob_fieldAddr fo_api_Value_1 rfl) rfl ?_
      refine JO.t (ob_ld1 sz_int64 rfl rfl) rfl ?_
      refine JO.t (ob_leq rfl rfl) rfl ?_
      refine JO.md (obm_callT rfl rfl (c_p_value_reader_must (l2 l) (tkE (l1 l) (e1 l) 1) (decide ((cb l : Int) ≤ 1))) (by repeat (first | exact .here | apply Upd.there)) (by simp) (.one rfl .nil)) (by rfl) rfl ?_
      refine JO.nil ?_
      repeat (first | refine JX.next ?_ | refine JX.normal_block ?_)
      refine J.sel [2, 3] (.cons rfl (.cons rfl .nil)) ?_
      have hrv := rv_2 ht18 ht25
      repeat refine J.seq ?_
      refine J.plain ?_
      refine JO.t (ob_ldN (cs := [_, _, _]) sz_api_Value rfl rfl rfl) rfl ?_
      refine JO.m (obm_store rfl rfl (by repeat (first | exact .here | apply Upd.there)) (by first | exact cnt_is rfl rfl | exact cnt_ex) (by first | exact cnt_is rfl rfl | exact cnt_ex | exact cnt_aggO) ss_api_Value) (by rfl) ?_
      refine JO.nil ?_
      repeat (first | refine JX.next ?_ | refine JX.normal_block ?_)
      refine J.sel [2] (.cons rfl .nil) ?_
      repeat refine J.seq ?_
      refine J.ret ?_
      repeat (first | refine JX.ret_pass ?_ | refine JX.ret_block ?_)
      exact JX.retMTC rfl rfl hb0 (by repeat (first | exact List.mem_cons_self | apply List.mem_cons_of_mem)) (by rw [hrv]; exact Sub.refl _) rfl sz_api_Value (by repeat (first | exact List.mem_cons_self | apply List.mem_cons_of_mem)) rfl (by rw [hrv])
    ·
      try simp only [decide_eq_true_eq, decide_eq_false_iff_not] at ht25
      repeat refine J.seq ?_
      refine J.plain ?_
      refine JO.t (ob_eql rfl rfl) rfl ?_
      refine JO.t (ob_assign rfl) rfl ?_
      refine JO.nil ?_
      repeat (first | refine JX.next ?_ | refine JX.normal_block ?_)
      refine J.sel [0, 2, 3, 38] (.cons rfl (.cons rfl (.cons rfl (.cons rfl .nil)))) ?_
      repeat refine J.seq ?_
      refine J.cond rfl (fun ht38 => ?_) (fun ht38 => ?_)
      ·
        try simp only [decide_eq_true_eq, decide_eq_false_iff_not] at ht38
        repeat refine J.seq ?_
        refine J.plain ?_
        refine JO.t (ob_move rfl) rfl ?_
        refine JO.md (obm_callT rfl rfl (c_p_value_reader_take (l1 l) (e1 l) 1 (by omega)) (by repeat (first | exact .here | apply Upd.there)) (by simp) (.one rfl .nil)) (by rfl) rfl ?_
        refine JO.openSlC (s := 41) rfl (fun a41 n41 c41 q41 o41 hl41 ha41 hc41 => ?_)
        rw [tkL_len] at hl41
        subst hl41
        refine JO.t (ob_indexAddr el_sl_uint8 rfl (ha41 (by decide)) rfl (by omega) (by omega)) rfl ?_
        refine JO.t (ob_loadG1 (enc := bC) (sz := 1) (len := 1) (i := 0) (j := 0) (xs := tkL (l1 l) (e1 l) 1) (y := (tkL (l1 l) (e1 l) 1).getD 0 0) sz_uint8 rfl (by repeat (first | exact List.mem_cons_self | apply List.mem_cons_of_mem)) (ha41 (by decide)) (u8_get (by rw [tkL_len]; decide)) (by rfl) rfl) rfl ?_
        refine JO.t (ob_convIIe (cc := ((cb l : Nat) : Int)) ⟨_, un_uint8⟩ un_int rfl (wrap64_eq (by omega) (by show ((cb l : Nat) : Int) < _; omega))) rfl ?_
        refine JO.t (ob_assign rfl) rfl ?_
        refine JO.nil ?_
        repeat (first | refine JX.next ?_ | refine JX.normal_block ?_)
        refine J.sel [0, 2, 3, 4] (.cons rfl (.cons rfl (.cons rfl (.cons rfl .nil)))) ?_
        repeat refine J.seq ?_
        refine J.plain ?_
        refine JO.t (ob_move rfl) rfl ?_
        refine JO.t (ob_move rfl) rfl ?_
        refine JO.t (ob_leq rfl rfl) rfl ?_
        refine JO.md (obm_callT rfl rfl (c_p_value_reader_must (l2 l) (tkE (l1 l) (e1 l) 1) (decide ((cb l : Int) ≤ 64))) (by repeat (first | exact .here | apply Upd.there)) (by simp) (.one rfl .nil)) (by rfl) rfl ?_
        refine JO.nil ?_
        repeat (first | refine JX.next ?_ | refine JX.normal_block ?_)
        refine J.sel [0, 2, 3, 4] (.cons rfl (.cons rfl (.cons rfl (.cons rfl .nil)))) ?_
        repeat refine J.seq ?_
        refine J.plain ?_
        refine JO.t (ob_move rfl) rfl ?_
        refine JO.t (ob_move rfl) rfl ?_
        refine JO.md (obm_callT rfl rfl (c_p_value_reader_take (l2 l) (e2 l 64) (cb l) (by omega)) (by repeat (first | exact .here | apply Upd.there)) (by simp) (.one rfl .nil)) (by rfl) rfl ?_
        refine JO.openSlC (s := 51) rfl (fun a51 n51 c51 q51 o51 hl51 ha51 hc51 => ?_)
        rw [tkL_len] at hl51
        subst hl51
        refine JO.t (ob_str un_sl_uint8 un_uint8 un_string rfl (by repeat (first | exact List.mem_cons_self | apply List.mem_cons_of_mem))) rfl ?_
        refine JO.t (ob_fieldAddr fo_api_Value_2 rfl) rfl ?_
        refine JO.m (obm_storeF (cs' := [_, _, _]) rfl rfl (by repeat (first | exact .here | apply Upd.there)) rfl rfl rfl rfl ss_string) (by rfl) ?_
        refine JO.nil ?_
        repeat (first | refine JX.next ?_ | refine JX.normal_block ?_)
        refine J.sel [2, 3] (.cons rfl (.cons rfl .nil)) ?_
        have hrv := rv_3 ht18 ht25 ht38
        repeat refine J.seq ?_
        refine J.plain ?_
        refine JO.t (ob_ldN (cs := [_, _, _]) sz_api_Value rfl rfl rfl) rfl ?_
        refine JO.m (obm_store rfl rfl (by repeat (first | exact .here | apply Upd.there)) (by first | exact cnt_is rfl rfl | exact cnt_ex) (by first | exact cnt_is rfl rfl | exact cnt_ex | exact cnt_aggO) ss_api_Value) (by rfl) ?_
        refine JO.nil ?_
        repeat (first | refine JX.next ?_ | refine JX.normal_block ?_)
        refine J.sel [2] (.cons rfl .nil) ?_
        repeat refine J.seq ?_
        refine J.ret ?_
        repeat (first | refine JX.ret_pass ?_ | refine JX.ret_block ?_)
        exact JX.retMTC rfl rfl hb0 (by repeat (first | exact List.mem_cons_self | apply List.mem_cons_of_mem)) (by rw [hrv]; exact Sub.refl _) rfl sz_api_Value (by repeat (first | exact List.mem_cons_self | apply List.mem_cons_of_mem)) rfl (by rw [hrv])
      ·
        try simp only [decide_eq_true_eq, decide_eq_false_iff_not] at ht38
        refine J.skip ?_
        repeat (first | refine JX.next ?_ | refine JX.normal_block ?_)
        have hrv := rv_4 ht18 ht25 ht38
        repeat refine J.seq ?_
        refine J.plain ?_
        refine JO.t (ob_ldN (cs := [_, _, _]) sz_api_Value rfl rfl rfl) rfl ?_
        refine JO.m (obm_store rfl rfl (by repeat (first | exact .here | apply Upd.there)) (by first | exact cnt_is rfl rfl | exact cnt_ex) (by first | exact cnt_is rfl rfl | exact cnt_ex | exact cnt_aggO) ss_api_Value) (by rfl) ?_
        refine JO.nil ?_
        repeat (first | refine JX.next ?_ | refine JX.normal_block ?_)
        refine J.sel [2] (.cons rfl .nil) ?_
        repeat refine J.seq ?_
        refine J.ret ?_
        repeat (first | refine JX.ret_pass ?_ | refine JX.ret_block ?_)
        exact JX.retMTC rfl rfl hb0 (by repeat (first | exact List.mem_cons_self | apply List.mem_cons_of_mem)) (by rw [hrv]; exact Sub.refl _) rfl sz_api_Value (by repeat (first | exact List.mem_cons_self | apply List.mem_cons_of_mem)) rfl (by rw [hrv])
end Go.Proofs.YtlccnpmhmdoapaaDoor
