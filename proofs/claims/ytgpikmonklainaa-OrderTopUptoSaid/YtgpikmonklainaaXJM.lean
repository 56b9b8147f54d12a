/- order: may. No condition. -/
import Derived.Test.YtgpikmonklainaaXI
set_option maxRecDepth 20000
namespace Go.Proofs.Ytgpikmonklainaa
open Go Go.Vc
open Go.Vl Go.Od
def fbad : List V3 → Nat → Int
  | [], _ => -1
  | x :: xs, i => if okV x then fbad xs (i + 1) else i
theorem fbad_drop {xs : List V3} {i : Nat} (h : i < xs.length) : fbad (xs.drop i) i = if okV (xs.getD i v3E) then fbad (xs.drop (i + 1)) (i + 1) else i := by
  rw [List.drop_eq_getElem_cons h, getD_lt h]
  rfl
theorem fbad_all : ∀ (xs : List V3) (i : Nat), decide (0 ≤ fbad xs i) = !(xs.all okV)
  | [], i => by simp [fbad]
  | x :: xs, i => by
    unfold fbad
    cases h : okV x
    · simp [h]
    · simp [h, fbad_all xs (i + 1)]
theorem c_order_may_1 (v : V3) : CallTy Try.prog f_order_may_1 [.is (.agg #[.int .i64 v.k, .int .i64 v.n, .string v.s])] (.is (.bool (!okV v))) :=
  CallTy.of (fn := Try.f41) Try.func41 (n := 6) rfl rfl rfl (fun _ _ => by kernel_rfl) fun E W => by
  repeat refine J.seq ?_
  refine J.plain ?_
  refine JO.box rfl rfl fun b1 => ?_
  refine JO.t (ob_assign rfl) rfl ?_
  refine JO.nil ?_
  repeat (first | refine JX.next ?_ | refine JX.normal_block ?_)
  refine J.sel [1] (.cons rfl .nil) ?_
  repeat refine J.seq ?_
  refine J.plain ?_
  refine JO.t (ob_ldN (cs := [_, _, _]) sz_api_Value rfl rfl rfl) rfl ?_
  refine JO.t (ob_call rfl (c_value_Ok _) (.one rfl .nil)) rfl ?_
  refine JO.t (ob_not rfl) rfl ?_
  refine JO.t (ob_assign rfl) rfl ?_
  refine JO.nil ?_
  repeat (first | refine JX.next ?_ | refine JX.normal_block ?_)
  refine J.sel [2] (.cons rfl .nil) ?_
  repeat refine J.seq ?_
  refine J.ret ?_
  repeat (first | refine JX.ret_pass ?_ | refine JX.ret_block ?_)
  exact JX.ret1is rfl rfl (by rfl)
theorem c_slices_IndexFunc_sl_api_Value_api_Value (xs : List V3) (hl : xs.length ≤ 9223372036854775806) : CallTy Try.prog f_slices_IndexFunc_sl_api_Value_api_Value [.rep (RowS xs), .is (.func (.func f_order_may_1) #[] #[])] (.is (.int .i64 (fbad xs 0))) :=
  CallTy.of (fn := Try.f56) Try.func56 (n := 19) rfl rfl rfl (fun _ _ => by kernel_rfl) fun E W => by
  refine J.openSl (enc := V3.cells) (sz := 3) (s := 0) rfl (fun a len cap b o hlen ha => ?_)
  subst hlen
  repeat refine J.seq ?_
  refine J.plain ?_
  refine JO.t (ob_assign rfl) rfl ?_
  refine JO.nil ?_
  repeat (first | refine JX.next ?_ | refine JX.normal_block ?_)
  refine J.sel [0, 1] (.cons rfl (.cons rfl .nil)) ?_
  repeat refine J.seq ?_
  refine J.plain ?_
  refine JO.t (ob_move rfl) rfl ?_
  refine JO.t (ob_len un_sl_api_Value rfl) rfl ?_
  refine JO.t (ob_move rfl) rfl ?_
  refine JO.nil ?_
  repeat (first | refine JX.next ?_ | refine JX.normal_block ?_)
  refine J.sel [0, 1, 7, 8] (.cons rfl (.cons rfl (.cons rfl (.cons rfl .nil)))) ?_
  repeat refine J.seq ?_
  refine J.block ?_
  repeat refine J.seq ?_
  refine J.loopF (α := Nat) (fun i => [(0, .is (.slice a xs.length cap)), (1, .is (.func (.func f_order_may_1) #[] #[])), (7, .is (.int .i64 (xs.length : Nat))), (8, .is (.int .i64 (i : Nat)))]) (fun i => i ≤ xs.length ∧ fbad (xs.drop i) i = fbad xs 0) (fun i => xs.length - i) 0 [0, 1, 7, 8] (.cons rfl (.cons rfl (.cons rfl (.cons rfl .nil)))) ⟨by omega, rfl⟩ fun i ⟨hi, hs⟩ => ?_
  repeat refine J.seq ?_
  refine J.plain ?_
  refine JO.t (ob_lss rfl rfl) rfl ?_
  refine JO.nil ?_
  repeat (first | refine JX.next ?_ | refine JX.normal_block ?_)
  refine J.sel [0, 1, 7, 8, 9] (.cons rfl (.cons rfl (.cons rfl (.cons rfl (.cons rfl .nil))))) ?_
  repeat refine J.seq ?_
  refine J.cond rfl (fun ht9 => ?_) (fun ht9 => ?_)
  ·
    try simp only [decide_eq_true_eq, decide_eq_false_iff_not] at ht9
    refine J.skip ?_
    repeat (first | refine JX.next ?_ | refine JX.normal_block ?_)
    repeat refine J.seq ?_
    refine J.block ?_
    repeat refine J.seq ?_
    refine J.plain ?_
    refine JO.t (ob_move rfl) rfl ?_
    refine JO.t (ob_assign rfl) rfl ?_
    refine JO.nil ?_
    repeat (first | refine JX.next ?_ | refine JX.normal_block ?_)
    refine J.sel [0, 1, 5, 7, 8] (.cons rfl (.cons rfl (.cons rfl (.cons rfl (.cons rfl .nil))))) ?_
    repeat refine J.seq ?_
    refine J.plain ?_
    refine JO.t (ob_move rfl) rfl ?_
    refine JO.t (ob_move rfl) rfl ?_
    refine JO.t (ob_move rfl) rfl ?_
    refine JO.t (ob_indexAddr el_sl_api_Value rfl (ha (by omega)) rfl (by omega) (by omega)) rfl ?_
    refine JO.t (ob_loadG (enc := V3.cells) (sz := 3) (len := xs.length) (i := i) (y := xs.getD i v3E) (cs := V3.cells (xs.getD i v3E)) sz_api_Value rfl (by repeat (first | exact List.mem_cons_self | apply List.mem_cons_of_mem)) (ha (by omega)) (v3_get (by omega)) (by omega) rfl) rfl ?_
    refine JO.t (ob_callv rfl (fs := []) (cs := []) (c_order_may_1 (xs.getD i v3E)) (.one rfl .nil)) rfl ?_
    refine JO.nil ?_
    repeat (first | refine JX.next ?_ | refine JX.normal_block ?_)
    refine J.sel [0, 1, 5, 7, 8, 16] (.cons rfl (.cons rfl (.cons rfl (.cons rfl (.cons rfl (.cons rfl .nil)))))) ?_
    repeat refine J.seq ?_
    refine J.cond rfl (fun ht16 => ?_) (fun ht16 => ?_)
    ·
      try simp only [decide_eq_true_eq, decide_eq_false_iff_not] at ht16
      repeat refine J.seq ?_
      refine J.plain ?_
      refine JO.t (ob_move rfl) rfl ?_
      refine JO.t (ob_assign rfl) rfl ?_
      refine JO.nil ?_
      repeat (first | refine JX.next ?_ | refine JX.normal_block ?_)
      refine J.sel [4] (.cons rfl .nil) ?_
      repeat refine J.seq ?_
      refine J.ret ?_
      repeat (first | refine JX.ret_pass ?_ | refine JX.ret_block ?_)
      exact JX.ret1is rfl rfl (by rw [← hs, fbad_drop (i := i) (by omega), if_neg (by simpa using ht16)])
    ·
      try simp only [decide_eq_true_eq, decide_eq_false_iff_not] at ht16
      refine J.skip ?_
      repeat (first | refine JX.next ?_ | refine JX.normal_block ?_)
      repeat refine J.seq ?_
      refine J.plain ?_
      refine JO.t (ob_addc (cc := ((i + 1 : Nat) : Int)) rfl rfl (by omega) (by omega) (by omega)) rfl ?_
      refine JO.t (ob_move rfl) rfl ?_
      refine JO.nil ?_
      repeat refine JX.normal_block ?_
      refine JX.roundS (i + 1) ?_ ?_ [0, 1, 7, 8] ?_ ?_ ?_
      · exact ⟨by omega, by rw [← hs, fbad_drop (i := i) (by omega), if_pos (by simpa using ht16)]⟩
      · exact (by omega)
      · exact (.cons rfl (.cons rfl (.cons rfl (.cons rfl .nil))))
      · repeat (first | exact .slnil | apply List.Sublist.cons_cons | apply List.Sublist.cons)
      · repeat (first | exact .slnil | apply List.Sublist.cons_cons | apply List.Sublist.cons)
  ·
    try simp only [decide_eq_true_eq, decide_eq_false_iff_not] at ht9
    repeat refine J.seq ?_
    refine J.exit ?_
    repeat (first | refine JX.hit ?_ | refine JX.miss rfl ?_ | refine JX.exit_pass ?_)
    repeat (first | refine JX.next ?_ | refine JX.normal_block ?_)
    repeat refine J.seq ?_
    refine J.plain ?_
    refine JO.t (ob_assign rfl) rfl ?_
    refine JO.nil ?_
    repeat (first | refine JX.next ?_ | refine JX.normal_block ?_)
    refine J.sel [4] (.cons rfl .nil) ?_
    repeat refine J.seq ?_
    refine J.ret ?_
    repeat (first | refine JX.ret_pass ?_ | refine JX.ret_block ?_)
    exact JX.ret1is rfl rfl (by rw [← hs, List.drop_eq_nil_of_le (by omega)]; rfl)
theorem c_slices_ContainsFunc_sl_api_Value_api_Value (xs : List V3) (hl : xs.length ≤ 9223372036854775806) : CallTy Try.prog f_slices_ContainsFunc_sl_api_Value_api_Value [.rep (RowS xs), .is (.func (.func f_order_may_1) #[] #[])] (.is (.bool (!(xs.all okV)))) :=
  CallTy.of (fn := Try.f40) Try.func40 (n := 9) rfl rfl rfl (fun _ _ => by kernel_rfl) fun E W => by
  repeat refine J.seq ?_
  refine J.plain ?_
  refine JO.t (ob_assign rfl) rfl ?_
  refine JO.nil ?_
  repeat (first | refine JX.next ?_ | refine JX.normal_block ?_)
  refine J.sel [0, 1] (.cons rfl (.cons rfl .nil)) ?_
  repeat refine J.seq ?_
  refine J.plain ?_
  refine JO.t (ob_move rfl) rfl ?_
  refine JO.t (ob_move rfl) rfl ?_
  refine JO.t (ob_call rfl (c_slices_IndexFunc_sl_api_Value_api_Value xs hl) (.one rfl (.one rfl .nil))) rfl ?_
  refine JO.t (ob_geq rfl rfl) rfl ?_
  refine JO.t (ob_assign rfl) rfl ?_
  refine JO.nil ?_
  repeat (first | refine JX.next ?_ | refine JX.normal_block ?_)
  refine J.sel [4] (.cons rfl .nil) ?_
  repeat refine J.seq ?_
  refine J.ret ?_
  repeat (first | refine JX.ret_pass ?_ | refine JX.ret_block ?_)
  exact JX.ret1is rfl rfl (by rw [fbad_all])
theorem c_order_may (xs : List V3) (hl : xs.length ≤ 9223372036854775806) : CallTy Try.prog f_order_may [.rep (RowS xs)] (.is (.bool (xs.all okV))) :=
  CallTy.of (fn := Try.f22) Try.func22 (n := 6) rfl rfl rfl (fun _ _ => by kernel_rfl) fun E W => by
  repeat refine J.seq ?_
  refine J.plain ?_
  refine JO.t (ob_assign rfl) rfl ?_
  refine JO.nil ?_
  repeat (first | refine JX.next ?_ | refine JX.normal_block ?_)
  refine J.sel [0] (.cons rfl .nil) ?_
  repeat refine J.seq ?_
  refine J.plain ?_
  refine JO.t (ob_move rfl) rfl ?_
  refine JO.t (ob_call rfl (c_slices_ContainsFunc_sl_api_Value_api_Value xs hl) (.one rfl (.one rfl .nil))) rfl ?_
  refine JO.t (ob_not rfl) rfl ?_
  refine JO.t (ob_assign rfl) rfl ?_
  refine JO.nil ?_
  repeat (first | refine JX.next ?_ | refine JX.normal_block ?_)
  refine J.sel [2] (.cons rfl .nil) ?_
  repeat refine J.seq ?_
  refine J.ret ?_
  repeat (first | refine JX.ret_pass ?_ | refine JX.ret_block ?_)
  exact JX.ret1is rfl rfl (by simp)
end Go.Proofs.Ytgpikmonklainaa
