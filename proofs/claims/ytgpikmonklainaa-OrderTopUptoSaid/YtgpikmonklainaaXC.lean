/- order: lines compared. No condition. -/
import Derived.Test.YtgpikmonklainaaXB
import Derived.Test.YtgpikmonklainaaXOF
set_option maxRecDepth 20000
namespace Go.Proofs.Ytgpikmonklainaa
open Go Go.Vc
open Go.Vl Go.Od
theorem c_p_order_queue_compare (dn : List Bool) (da : Option Addr) (dl dcap : Nat) (U : List LV) (p q : LV) (qb : Nat) (sl : Value) (hp : p ∈ U) (hq : q ∈ U) (hpk : p.k.row.length = dn.length) (hqk : q.k.row.length = dn.length) (hpr : p.r.row.length ≤ 9223372036854775806) (hdn : dn.length ≤ 9223372036854775806) : CallL Try.prog f_p_order_queue_compare [⟨qb, ty_order_queue, .is (.agg [sl, .slice da dl dcap].toArray)⟩] [RowG boC 1 dn da dl, LVF U] [.is (.pointer (some ⟨qb, 0, none⟩)), .is p.v, .is q.v] (fun _ : Unit => True) (fun _ => [⟨qb, ty_order_queue, .is (.agg [sl, .slice da dl dcap].toArray)⟩]) (fun _ => .is (.int .i64 (lineC dn p.ln q.ln))) :=
CallL.of (fn := Try.f84) Try.func84 (n := 43) rfl rfl rfl (fun _ _ => by kernel_rfl) fun E W hb0 => by
  refine J.knG (Φ := [RowG boC 1 dn da dl, LVF U]) (enc := boC) (sz := 1) (xs := dn) List.mem_cons_self (fun db do_ hdl hda => ?_)
  refine J.lvK (U := U) (p := p) (by repeat (first | exact List.mem_cons_self | apply List.mem_cons_of_mem)) hp (fun pb po hpl hpa => ?_)
  refine J.lvK (U := U) (p := q) (by repeat (first | exact List.mem_cons_self | apply List.mem_cons_of_mem)) hq (fun kb ko hql hqa => ?_)
  repeat refine J.seq ?_
  refine J.plain ?_
  refine JO.box rfl rfl fun b4 => ?_
  refine JO.box rfl rfl fun b5 => ?_
  refine JO.t (ob_assign rfl) rfl ?_
  refine JO.nil ?_
  repeat (first | refine JX.next ?_ | refine JX.normal_block ?_)
  refine J.sel [0, 4, 5] (.cons rfl (.cons rfl (.cons rfl .nil))) ?_
  repeat refine J.seq ?_
  refine J.plain ?_
  refine JO.t (ob_move rfl) rfl ?_
  refine JO.t (ob_nilCheck rfl) rfl ?_
  refine JO.t (ob_fieldAddr fo_order_queue_1 rfl) rfl ?_
  refine JO.t (ob_ld1 sz_sl_bool rfl rfl) rfl ?_
  refine JO.t (ob_len un_sl_bool rfl) rfl ?_
  refine JO.t (ob_move rfl) rfl ?_
  refine JO.nil ?_
  repeat (first | refine JX.next ?_ | refine JX.normal_block ?_)
  refine J.sel [4, 5, 13, 14, 15] (.cons rfl (.cons rfl (.cons rfl (.cons rfl (.cons rfl .nil))))) ?_
  repeat refine J.seq ?_
  refine J.block ?_
  repeat refine J.seq ?_
  refine J.loopF (α := Nat) (fun i => [(4, .is (.pointer (some ⟨b4, 0, none⟩))), (5, .is (.pointer (some ⟨b5, 0, none⟩))), (13, .is (.slice da dl dcap)), (14, .is (.int .i64 (dl : Nat))), (15, .is (.int .i64 (i : Nat)))]) (fun i => i ≤ dl ∧ keysC (dn.drop i) (p.k.row.drop i) (q.k.row.drop i) = keysC dn p.k.row q.k.row) (fun i => dl - i) 0 [4, 5, 13, 14, 15] (.cons rfl (.cons rfl (.cons rfl (.cons rfl (.cons rfl .nil))))) ⟨by omega, rfl⟩ fun i ⟨hi, hs⟩ => ?_
  repeat refine J.seq ?_
  refine J.plain ?_
  refine JO.t (ob_lss rfl rfl) rfl ?_
  refine JO.nil ?_
  repeat (first | refine JX.next ?_ | refine JX.normal_block ?_)
  refine J.sel [4, 5, 13, 14, 15, 16] (.cons rfl (.cons rfl (.cons rfl (.cons rfl (.cons rfl (.cons rfl .nil)))))) ?_
  repeat refine J.seq ?_
  refine J.cond rfl (fun ht16 => ?_) (fun ht16 => ?_)
  ·
    try simp only [decide_eq_true_eq, decide_eq_false_iff_not] at ht16
    refine J.skip ?_
    repeat (first | refine JX.next ?_ | refine JX.normal_block ?_)
    repeat refine J.seq ?_
    refine J.block ?_
    repeat refine J.seq ?_
    refine J.plain ?_
    refine JO.t (ob_move rfl) rfl ?_
    refine JO.t (ob_indexAddr el_sl_bool rfl (hda (by omega)) rfl (by omega) (by omega)) rfl ?_
    refine JO.t (ob_loadG1 (enc := boC) (sz := 1) (len := dl) (i := i) (j := 0) (y := dn.getD i false) sz_bool rfl (by repeat (first | exact List.mem_cons_self | apply List.mem_cons_of_mem)) (hda (by omega)) (bo_get (by omega)) (by omega) rfl) rfl ?_
    refine JO.t (ob_assign rfl) rfl ?_
    refine JO.t (ob_assign rfl) rfl ?_
    refine JO.nil ?_
    repeat (first | refine JX.next ?_ | refine JX.normal_block ?_)
    refine J.sel [4, 5, 7, 8, 13, 14, 15] (.cons rfl (.cons rfl (.cons rfl (.cons rfl (.cons rfl (.cons rfl (.cons rfl .nil))))))) ?_
    repeat refine J.seq ?_
    refine J.reg0 hmx (by kernel_rfl) (by kernel_rfl) ?_
    refine RT.t (ob_fieldAddr fo_order_line_1 rfl) ?_
    refine RT.t (ob_ld1 sz_sl_api_Value rfl rfl) ?_
    refine RT.t (ob_move rfl) ?_
    refine RT.t (ob_indexAddr el_sl_api_Value rfl (hpa (by omega)) rfl (by omega) (by omega)) ?_
    refine RT.t (ob_loadG (enc := V3.cells) (sz := 3) (len := p.k.len) (i := i) (y := p.k.row.getD i v3E) (cs := V3.cells (p.k.row.getD i v3E)) sz_api_Value rfl (by repeat (first | exact List.mem_cons_self | apply List.mem_cons_of_mem)) (hpa (by omega)) (v3_get (by omega)) (by omega) rfl) ?_
    refine RT.t (ob_fieldAddr fo_order_line_1 rfl) ?_
    refine RT.t (ob_ld1 sz_sl_api_Value rfl rfl) ?_
    refine RT.t (ob_move rfl) ?_
    refine RT.t (ob_indexAddr el_sl_api_Value rfl (hqa (by omega)) rfl (by omega) (by omega)) ?_
    refine RT.t (ob_loadG (enc := V3.cells) (sz := 3) (len := q.k.len) (i := i) (y := q.k.row.getD i v3E) (cs := V3.cells (q.k.row.getD i v3E)) sz_api_Value rfl (by repeat (first | exact List.mem_cons_self | apply List.mem_cons_of_mem)) (hqa (by omega)) (v3_get (by omega)) (by omega) rfl) ?_
    refine RT.t (ob_call rfl (c_value_Compare _ _) (.one rfl (.one rfl .nil))) ?_
    refine RT.t (ob_assign rfl) ?_
    refine RT.nil ?_
    refine FinS.nil0 ?_
    repeat (first | refine JX.next ?_ | refine JX.normal_block ?_)
    refine J.sel [4, 5, 8, 9, 13, 14, 15] (.cons rfl (.cons rfl (.cons rfl (.cons rfl (.cons rfl (.cons rfl (.cons rfl .nil))))))) ?_
    repeat refine J.seq ?_
    refine J.plain ?_
    refine JO.t (ob_move rfl) rfl ?_
    refine JO.nil ?_
    repeat (first | refine JX.next ?_ | refine JX.normal_block ?_)
    refine J.sel [4, 5, 9, 13, 14, 15, 31] (.cons rfl (.cons rfl (.cons rfl (.cons rfl (.cons rfl (.cons rfl (.cons rfl .nil))))))) ?_
    repeat refine J.seq ?_
    refine J.cond rfl (fun ht31 => ?_) (fun ht31 => ?_)
    ·
      try simp only [decide_eq_true_eq, decide_eq_false_iff_not] at ht31
      repeat refine J.seq ?_
      refine J.plain ?_
      refine JO.t (ob_move rfl) rfl ?_
      refine JO.t (ob_negv (v := -cmpV (p.k.row.getD i v3E) (q.k.row.getD i v3E)) rfl rfl (by have := cmp_rng (p.k.row.getD i v3E) (q.k.row.getD i v3E); omega) (by have := cmp_rng (p.k.row.getD i v3E) (q.k.row.getD i v3E); omega)) rfl ?_
      refine JO.t (ob_assign rfl) rfl ?_
      refine JO.nil ?_
      repeat (first | refine JX.next ?_ | refine JX.normal_block ?_)
      refine J.sel [4, 5, 9, 13, 14, 15] (.cons rfl (.cons rfl (.cons rfl (.cons rfl (.cons rfl (.cons rfl .nil)))))) ?_
      repeat refine J.seq ?_
      refine J.plain ?_
      refine JO.t (ob_move rfl) rfl ?_
      refine JO.t (ob_neq rfl rfl) rfl ?_
      refine JO.nil ?_
      repeat (first | refine JX.next ?_ | refine JX.normal_block ?_)
      refine J.sel [4, 5, 9, 13, 14, 15, 35] (.cons rfl (.cons rfl (.cons rfl (.cons rfl (.cons rfl (.cons rfl (.cons rfl .nil))))))) ?_
      repeat refine J.seq ?_
      refine J.cond rfl (fun ht35 => ?_) (fun ht35 => ?_)
      ·
        try simp only [decide_eq_true_eq, decide_eq_false_iff_not] at ht35
        repeat refine J.seq ?_
        refine J.plain ?_
        refine JO.t (ob_move rfl) rfl ?_
        refine JO.t (ob_assign rfl) rfl ?_
        refine JO.nil ?_
        repeat (first | refine JX.next ?_ | refine JX.normal_block ?_)
        refine J.sel [6] (.cons rfl .nil) ?_
        repeat refine J.seq ?_
        refine J.ret ?_
        repeat (first | refine JX.ret_pass ?_ | refine JX.ret_block ?_)
        exact JX.retL1 (L1 := fun _ => [_]) (R := fun _ : Unit => .is _) rfl () trivial (List.perm_append_comm (l₁ := [_, _]) (l₂ := [_])) rfl rfl hb0 rfl (Sub.isEq (congrArg _ (by unfold lineC; rw [← hs, keysC_drop (i := i) (by omega) hpk hqk]; unfold sgC; rw [ht31]; simp at ht35; simp [ht35])))
      ·
        try simp only [decide_eq_true_eq, decide_eq_false_iff_not] at ht35
        refine J.skip ?_
        repeat (first | refine JX.next ?_ | refine JX.normal_block ?_)
        repeat refine J.seq ?_
        refine J.plain ?_
        refine JO.t (ob_addc (cc := ((i + 1 : Nat) : Int)) rfl rfl (by omega) (by omega) (by omega)) rfl ?_
        refine JO.t (ob_move rfl) rfl ?_
        refine JO.nil ?_
        repeat refine JX.normal_block ?_
        refine JX.roundS (i + 1) ?_ ?_ [4, 5, 13, 14, 15] ?_ ?_ ?_
        · exact ⟨by omega, by rw [← hs, keysC_drop (i := i) (by omega) hpk hqk, if_neg (by unfold sgC; rw [ht31]; simpa using ht35)]⟩
        · exact (by omega)
        · exact (.cons rfl (.cons rfl (.cons rfl (.cons rfl (.cons rfl .nil)))))
        · repeat (first | exact .slnil | apply List.Sublist.cons_cons | apply List.Sublist.cons)
        · repeat (first | exact .slnil | apply List.Sublist.cons_cons | apply List.Sublist.cons)
    ·
      try simp only [decide_eq_true_eq, decide_eq_false_iff_not] at ht31
      refine J.skip ?_
      repeat (first | refine JX.next ?_ | refine JX.normal_block ?_)
      repeat refine J.seq ?_
      refine J.plain ?_
      refine JO.t (ob_move rfl) rfl ?_
      refine JO.t (ob_neq rfl rfl) rfl ?_
      refine JO.nil ?_
      repeat (first | refine JX.next ?_ | refine JX.normal_block ?_)
      refine J.sel [4, 5, 9, 13, 14, 15, 35] (.cons rfl (.cons rfl (.cons rfl (.cons rfl (.cons rfl (.cons rfl (.cons rfl .nil))))))) ?_
      repeat refine J.seq ?_
      refine J.cond rfl (fun ht35 => ?_) (fun ht35 => ?_)
      ·
        try simp only [decide_eq_true_eq, decide_eq_false_iff_not] at ht35
        repeat refine J.seq ?_
        refine J.plain ?_
        refine JO.t (ob_move rfl) rfl ?_
        refine JO.t (ob_assign rfl) rfl ?_
        refine JO.nil ?_
        repeat (first | refine JX.next ?_ | refine JX.normal_block ?_)
        refine J.sel [6] (.cons rfl .nil) ?_
        repeat refine J.seq ?_
        refine J.ret ?_
        repeat (first | refine JX.ret_pass ?_ | refine JX.ret_block ?_)
        exact JX.retL1 (L1 := fun _ => [_]) (R := fun _ : Unit => .is _) rfl () trivial (List.perm_append_comm (l₁ := [_, _]) (l₂ := [_])) rfl rfl hb0 rfl (Sub.isEq (congrArg _ (by unfold lineC; rw [← hs, keysC_drop (i := i) (by omega) hpk hqk]; unfold sgC; rw [ht31]; simp at ht35; simp [ht35])))
      ·
        try simp only [decide_eq_true_eq, decide_eq_false_iff_not] at ht35
        refine J.skip ?_
        repeat (first | refine JX.next ?_ | refine JX.normal_block ?_)
        repeat refine J.seq ?_
        refine J.plain ?_
        refine JO.t (ob_addc (cc := ((i + 1 : Nat) : Int)) rfl rfl (by omega) (by omega) (by omega)) rfl ?_
        refine JO.t (ob_move rfl) rfl ?_
        refine JO.nil ?_
        repeat refine JX.normal_block ?_
        refine JX.roundS (i + 1) ?_ ?_ [4, 5, 13, 14, 15] ?_ ?_ ?_
        · exact ⟨by omega, by rw [← hs, keysC_drop (i := i) (by omega) hpk hqk, if_neg (by unfold sgC; rw [ht31]; simpa using ht35)]⟩
        · exact (by omega)
        · exact (.cons rfl (.cons rfl (.cons rfl (.cons rfl (.cons rfl .nil)))))
        · repeat (first | exact .slnil | apply List.Sublist.cons_cons | apply List.Sublist.cons)
        · repeat (first | exact .slnil | apply List.Sublist.cons_cons | apply List.Sublist.cons)
  ·
    try simp only [decide_eq_true_eq, decide_eq_false_iff_not] at ht16
    repeat refine J.seq ?_
    refine J.exit ?_
    repeat (first | refine JX.hit ?_ | refine JX.miss rfl ?_ | refine JX.exit_pass ?_)
    repeat (first | refine JX.next ?_ | refine JX.normal_block ?_)
    repeat refine J.seq ?_
    refine J.plain ?_
    refine JO.t (ob_fieldAddr fo_order_line_0 rfl) rfl ?_
    refine JO.t (ob_ld1 sz_sl_api_Value rfl rfl) rfl ?_
    refine JO.t (ob_fieldAddr fo_order_line_0 rfl) rfl ?_
    refine JO.t (ob_ld1 sz_sl_api_Value rfl rfl) rfl ?_
    refine JO.t (ob_call rfl (c_order_Rows p.r.row q.r.row hpr) (.sub rfl (Sub.lvR (U := U) (p := p) (by repeat (first | exact List.mem_cons_self | apply List.mem_cons_of_mem)) hp) (.sub rfl (Sub.lvR (U := U) (p := q) (by repeat (first | exact List.mem_cons_self | apply List.mem_cons_of_mem)) hq) .nil))) rfl ?_
    refine JO.t (ob_assign rfl) rfl ?_
    refine JO.nil ?_
    repeat (first | refine JX.next ?_ | refine JX.normal_block ?_)
    refine J.sel [6] (.cons rfl .nil) ?_
    repeat refine J.seq ?_
    refine J.ret ?_
    repeat (first | refine JX.ret_pass ?_ | refine JX.ret_block ?_)
    exact JX.retL1 (L1 := fun _ => [_]) (R := fun _ : Unit => .is _) rfl () trivial (List.perm_append_comm (l₁ := [_, _]) (l₂ := [_])) rfl rfl hb0 rfl (Sub.isEq (congrArg _ (by unfold lineC; rw [← hs, keysC_end (by omega)]; rfl)))
end Go.Proofs.Ytgpikmonklainaa
