/- order: rows compared, the queue. No condition. -/
import Derived.Test.YtgpikmonklainaaXA
set_option maxRecDepth 20000
namespace Go.Proofs.Ytgpikmonklainaa
open Go Go.Vc
open Go.Vl Go.Od
theorem rowsC_drop {xs ys : List V3} {i : Nat} (hx : i < xs.length) (hy : i < ys.length) : rowsC (xs.drop i) (ys.drop i) = if cmpV (xs.getD i v3D) (ys.getD i v3D) != 0 then cmpV (xs.getD i v3D) (ys.getD i v3D) else rowsC (xs.drop (i + 1)) (ys.drop (i + 1)) := by
  rw [List.drop_eq_getElem_cons hx, List.drop_eq_getElem_cons hy]
  show lexC cmpV _ _ = _
  rw [lexC_c]
  simp [hx, hy]
  rfl
theorem rowsC_end {xs ys : List V3} {i : Nat} (hi : i = min xs.length ys.length) : rowsC (xs.drop i) (ys.drop i) = cI xs.length ys.length := by
  have hx : (xs.drop i).length = xs.length - i := List.length_drop
  have hy : (ys.drop i).length = ys.length - i := List.length_drop
  unfold cI
  cases ex : xs.drop i with
  | nil =>
    rw [ex] at hx
    cases ey : ys.drop i with
    | nil =>
      rw [ey] at hy
      simp at hx hy
      have : xs.length = ys.length := by omega
      simp [rowsC, lexC, this]
    | cons y t =>
      rw [ey] at hy
      simp at hx hy
      have h1 : (xs.length : Int) < ys.length := by omega
      simp [rowsC, lexC, h1]
  | cons x t =>
    rw [ex] at hx
    cases ey : ys.drop i with
    | nil =>
      rw [ey] at hy
      simp at hx hy
      have h1 : ¬ (xs.length : Int) < ys.length := by omega
      have h2 : (ys.length : Int) < xs.length := by omega
      simp [rowsC, lexC, h1, h2]
    | cons y u =>
      rw [ey] at hy
      simp at hx hy
      omega
theorem c_order_Rows (xs ys : List V3) (hl : xs.length ≤ 9223372036854775806) : CallTy Try.prog f_order_Rows [.rep (RowS xs), .rep (RowS ys)] (.is (.int .i64 (rowsC xs ys))) :=
  CallTy.of (fn := Try.f14) Try.func14 (n := 33) rfl rfl rfl (fun _ _ => by kernel_rfl) fun E W => by
  refine J.openSl (enc := V3.cells) (sz := 3) (s := 0) rfl (fun a len cap b o hlen ha => ?_)
  refine J.openSl (enc := V3.cells) (sz := 3) (s := 1) rfl (fun ya yl yc yb yo hyl hya => ?_)
  subst hlen hyl
  repeat refine J.seq ?_
  refine J.plain ?_
  refine JO.t (ob_assign rfl) rfl ?_
  refine JO.nil ?_
  repeat (first | refine JX.next ?_ | refine JX.normal_block ?_)
  refine J.sel [0, 1] (.cons rfl (.cons rfl .nil)) ?_
  repeat refine J.seq ?_
  refine J.plain ?_
  refine JO.t (ob_move rfl) rfl ?_
  refine JO.t (ob_len un_sl_api_Value rfl) rfl ?_
  refine JO.t (ob_move rfl) rfl ?_
  refine JO.t (ob_len un_sl_api_Value rfl) rfl ?_
  refine JO.t (ob_minN rfl rfl) rfl ?_
  refine JO.t (ob_move rfl) rfl ?_
  refine JO.nil ?_
  repeat (first | refine JX.next ?_ | refine JX.normal_block ?_)
  refine J.sel [0, 1, 11, 12] (.cons rfl (.cons rfl (.cons rfl (.cons rfl .nil)))) ?_
  repeat refine J.seq ?_
  refine J.block ?_
  repeat refine J.seq ?_
  refine J.loopF (α := Nat) (fun i => [(0, .is (.slice a xs.length cap)), (1, .is (.slice ya ys.length yc)), (11, .is (.int .i64 (min xs.length ys.length : Nat))), (12, .is (.int .i64 (i : Nat)))]) (fun i => i ≤ min xs.length ys.length ∧ rowsC (xs.drop i) (ys.drop i) = rowsC xs ys) (fun i => min xs.length ys.length - i) 0 [0, 1, 11, 12] (.cons rfl (.cons rfl (.cons rfl (.cons rfl .nil)))) ⟨by omega, rfl⟩ fun i ⟨hi, hs⟩ => ?_
  repeat refine J.seq ?_
  refine J.plain ?_
  refine JO.t (ob_lss rfl rfl) rfl ?_
  refine JO.nil ?_
  repeat (first | refine JX.next ?_ | refine JX.normal_block ?_)
  refine J.sel [0, 1, 11, 12, 13] (.cons rfl (.cons rfl (.cons rfl (.cons rfl (.cons rfl .nil))))) ?_
  repeat refine J.seq ?_
  refine J.cond rfl (fun ht13 => ?_) (fun ht13 => ?_)
  ·
    try simp only [decide_eq_true_eq, decide_eq_false_iff_not] at ht13
    refine J.skip ?_
    repeat (first | refine JX.next ?_ | refine JX.normal_block ?_)
    repeat refine J.seq ?_
    refine J.block ?_
    repeat refine J.seq ?_
    refine J.plain ?_
    refine JO.t (ob_move rfl) rfl ?_
    refine JO.t (ob_assign rfl) rfl ?_
    refine JO.nil ?_
    repeat (first | refine JX.next ?_ | refine JX.normal_block ?_)
    refine J.sel [0, 1, 5, 11, 12] (.cons rfl (.cons rfl (.cons rfl (.cons rfl (.cons rfl .nil))))) ?_
    repeat refine J.seq ?_
    refine J.reg0 hmx (by kernel_rfl) (by kernel_rfl) ?_
    refine RT.t (ob_move rfl) ?_
    refine RT.t (ob_move rfl) ?_
    refine RT.t (ob_indexAddr el_sl_api_Value rfl (ha (by omega)) rfl (by omega) (by omega)) ?_
    refine RT.t (ob_loadG (enc := V3.cells) (sz := 3) (len := xs.length) (i := i) (y := xs.getD i v3D) (cs := V3.cells (xs.getD i v3D)) sz_api_Value rfl (by repeat (first | exact List.mem_cons_self | apply List.mem_cons_of_mem)) (ha (by omega)) (v3_get (by omega)) (by omega) rfl) ?_
    refine RT.t (ob_move rfl) ?_
    refine RT.t (ob_move rfl) ?_
    refine RT.t (ob_indexAddr el_sl_api_Value rfl (hya (by omega)) rfl (by omega) (by omega)) ?_
    refine RT.t (ob_loadG (enc := V3.cells) (sz := 3) (len := ys.length) (i := i) (y := ys.getD i v3D) (cs := V3.cells (ys.getD i v3D)) sz_api_Value rfl (by repeat (first | exact List.mem_cons_self | apply List.mem_cons_of_mem)) (hya (by omega)) (v3_get (by omega)) (by omega) rfl) ?_
    refine RT.t (ob_call rfl (c_value_Compare _ _) (.one rfl (.one rfl .nil))) ?_
    refine RT.t (ob_assign rfl) ?_
    refine RT.nil ?_
    refine FinS.nil0 ?_
    repeat (first | refine JX.next ?_ | refine JX.normal_block ?_)
    refine J.sel [0, 1, 6, 11, 12] (.cons rfl (.cons rfl (.cons rfl (.cons rfl (.cons rfl .nil))))) ?_
    repeat refine J.seq ?_
    refine J.plain ?_
    refine JO.t (ob_move rfl) rfl ?_
    refine JO.t (ob_neq rfl rfl) rfl ?_
    refine JO.nil ?_
    repeat (first | refine JX.next ?_ | refine JX.normal_block ?_)
    refine J.sel [0, 1, 6, 11, 12, 25] (.cons rfl (.cons rfl (.cons rfl (.cons rfl (.cons rfl (.cons rfl .nil)))))) ?_
    repeat refine J.seq ?_
    refine J.cond rfl (fun ht25 => ?_) (fun ht25 => ?_)
    ·
      try simp only [decide_eq_true_eq, decide_eq_false_iff_not] at ht25
      repeat refine J.seq ?_
      refine J.plain ?_
      refine JO.t (ob_move rfl) rfl ?_
      refine JO.t (ob_assign rfl) rfl ?_
      refine JO.nil ?_
      repeat (first | refine JX.next ?_ | refine JX.normal_block ?_)
      refine J.sel [4] (.cons rfl .nil) ?_
      repeat refine J.seq ?_
      refine J.ret ?_
      repeat (first | refine JX.ret_pass ?_ | refine JX.ret_block ?_)
      exact JX.ret1is rfl rfl (by rw [← hs, rowsC_drop (i := i) (by omega) (by omega), if_pos ht25])
    ·
      try simp only [decide_eq_true_eq, decide_eq_false_iff_not] at ht25
      refine J.skip ?_
      repeat (first | refine JX.next ?_ | refine JX.normal_block ?_)
      repeat refine J.seq ?_
      refine J.plain ?_
      refine JO.t (ob_addc (cc := ((i + 1 : Nat) : Int)) rfl rfl (by omega) (by omega) (by omega)) rfl ?_
      refine JO.t (ob_move rfl) rfl ?_
      refine JO.nil ?_
      repeat refine JX.normal_block ?_
      refine JX.roundS (i + 1) ?_ ?_ [0, 1, 11, 12] ?_ ?_ ?_
      · exact ⟨by omega, by rw [← hs, rowsC_drop (i := i) (by omega) (by omega), if_neg (by simpa using ht25)]⟩
      · exact (by omega)
      · exact (.cons rfl (.cons rfl (.cons rfl (.cons rfl .nil))))
      · repeat (first | exact .slnil | apply List.Sublist.cons_cons | apply List.Sublist.cons)
      · repeat (first | exact .slnil | apply List.Sublist.cons_cons | apply List.Sublist.cons)
  ·
    try simp only [decide_eq_true_eq, decide_eq_false_iff_not] at ht13
    repeat refine J.seq ?_
    refine J.exit ?_
    repeat (first | refine JX.hit ?_ | refine JX.miss rfl ?_ | refine JX.exit_pass ?_)
    repeat (first | refine JX.next ?_ | refine JX.normal_block ?_)
    repeat refine J.seq ?_
    refine J.plain ?_
    refine JO.t (ob_move rfl) rfl ?_
    refine JO.t (ob_len un_sl_api_Value rfl) rfl ?_
    refine JO.t (ob_move rfl) rfl ?_
    refine JO.t (ob_len un_sl_api_Value rfl) rfl ?_
    refine JO.t (ob_call rfl (c_cmp_Compare_int _ _) (.one rfl (.one rfl .nil))) rfl ?_
    refine JO.t (ob_assign rfl) rfl ?_
    refine JO.nil ?_
    repeat (first | refine JX.next ?_ | refine JX.normal_block ?_)
    refine J.sel [4] (.cons rfl .nil) ?_
    repeat refine J.seq ?_
    refine J.ret ?_
    repeat (first | refine JX.ret_pass ?_ | refine JX.ret_block ?_)
    exact JX.ret1is rfl rfl (by rw [← hs, rowsC_end (by omega)])
end Go.Proofs.Ytgpikmonklainaa
