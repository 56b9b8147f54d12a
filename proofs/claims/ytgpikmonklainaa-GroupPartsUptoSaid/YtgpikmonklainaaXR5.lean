/- The document on order: rows, what is ahead, what may be, rows of rows that are the same. No condition. -/
import Derived.Test.YtgpikmonklainaaXB
import Derived.Test.YtgpikmonklainaaXP0
import Derived.Test.YtgpikmonklainaaXM2
set_option maxRecDepth 20000
namespace Go.Proofs.Ytgpikmonklainaa
open Go Go.Vc
open Go.Vl Go.Od
theorem not_lt_of {x y : List V3} {i : Nat} (h : (decide ((i : Int) < (x.length : Nat)) && decide ((i : Int) < (y.length : Nat))) = false) (h1 : i ≤ min x.length y.length) : i = min x.length y.length := by
  simp only [Bool.and_eq_false_iff, decide_eq_false_iff_not] at h
  omega
def sameR : List (List V3) → List (List V3) → Bool
  | [], [] => true
  | x :: xs, y :: ys => sameV x y && sameR xs ys
  | _, _ => false
theorem sameR_iff : ∀ xs ys : List (List V3), sameR xs ys = true ↔ xs = ys
  | [], [] => by simp [sameR]
  | x :: xs, y :: ys => by rw [sameR, Bool.and_eq_true, sameV_iff, sameR_iff xs ys, List.cons.injEq]
  | [], _ :: _ => by simp [sameR]
  | _ :: _, [] => by simp [sameR]
theorem sameR_drop {xs ys : List (List V3)} {i : Nat} (hx : i < xs.length) (hy : i < ys.length) : sameR (xs.drop i) (ys.drop i) = (sameV (xs.getD i []) (ys.getD i []) && sameR (xs.drop (i + 1)) (ys.drop (i + 1))) := by
  rw [List.drop_eq_getElem_cons hx, List.drop_eq_getElem_cons hy, sameR, getD_lt hx, getD_lt hy]
theorem row_getD {ps : List RV} {i : Nat} (h : i < ps.length) : (ps.map RV.row).getD i [] = (ps.getD i rv0).row := by
  rw [getD_lt (by simpa using h), getD_lt h, List.getElem_map]
theorem c_ref15_Same (xs ys : List (List V3)) (hl : xs.length ≤ 9223372036854775806) (hx : ∀ x ∈ xs, x.length ≤ 9223372036854775806) : CallTy Try.prog f_ref15_Same [.rep (RowsR noG xs), .rep (RowsR noG ys)] (.is (.bool (sameR xs ys))) :=
  CallTy.of (fn := Try.f13) Try.func13 (n := 27) rfl rfl rfl (fun _ _ => by kernel_rfl) fun E W => by
  refine J.openRows (s := 0) rfl (fun rps ra rl rc rb ro hrm hrl hrc hra => ?_)
  refine J.openRows (s := 1) rfl (fun kps ka kl kc kb ko hkm hkl hkc hka => ?_)
  subst hrl hkl hrm hkm
  rw [List.length_map] at hl
  repeat refine J.seq ?_
  refine J.plain ?_
  refine JO.t (ob_assign rfl) rfl ?_
  refine JO.nil ?_
  repeat (first | refine JX.next ?_ | refine JX.normal_block ?_)
  refine J.sel [0, 1] (.cons rfl (.cons rfl .nil)) ?_
  repeat refine J.seq ?_
  refine J.plain ?_
  refine JO.t (ob_move rfl) rfl ?_
  refine JO.t (ob_len un_sl_sl_api_Value rfl) rfl ?_
  refine JO.t (ob_move rfl) rfl ?_
  refine JO.t (ob_len un_sl_sl_api_Value rfl) rfl ?_
  refine JO.t (ob_neq rfl rfl) rfl ?_
  refine JO.nil ?_
  repeat (first | refine JX.next ?_ | refine JX.normal_block ?_)
  refine J.sel [0, 1, 10] (.cons rfl (.cons rfl (.cons rfl .nil))) ?_
  repeat refine J.seq ?_
  refine J.cond rfl (fun ht10 => ?_) (fun ht10 => ?_)
  ·
    try simp only [decide_eq_true_eq, decide_eq_false_iff_not] at ht10
    repeat refine J.seq ?_
    refine J.plain ?_
    refine JO.t (ob_assign rfl) rfl ?_
    refine JO.nil ?_
    repeat (first | refine JX.next ?_ | refine JX.normal_block ?_)
    refine J.sel [4] (.cons rfl .nil) ?_
    repeat refine J.seq ?_
    refine J.ret ?_
    repeat (first | refine JX.ret_pass ?_ | refine JX.ret_block ?_)
    exact JX.ret1is rfl rfl (by cases hq : sameR (rps.map RV.row) (kps.map RV.row); rfl; have := congrArg List.length ((sameR_iff _ _).1 hq); simp at ht10 this; omega)
  ·
    try simp only [decide_eq_true_eq, decide_eq_false_iff_not] at ht10
    refine J.skip ?_
    repeat (first | refine JX.next ?_ | refine JX.normal_block ?_)
    have hrk : rps.length = kps.length := by simp at ht10; omega
    repeat refine J.seq ?_
    refine J.plain ?_
    refine JO.t (ob_assign rfl) rfl ?_
    refine JO.nil ?_
    repeat (first | refine JX.next ?_ | refine JX.normal_block ?_)
    refine J.sel [0, 1, 5] (.cons rfl (.cons rfl (.cons rfl .nil))) ?_
    repeat refine J.seq ?_
    refine J.block ?_
    repeat refine J.seq ?_
    refine J.loopF (α := Nat) (fun i => [(0, .is (.slice ra rps.length rc)), (1, .is (.slice ka kps.length kc)), (5, .is (.int .i64 (i : Nat)))]) (fun i => i ≤ rps.length ∧ sameR ((rps.map RV.row).drop i) ((kps.map RV.row).drop i) = sameR (rps.map RV.row) (kps.map RV.row)) (fun i => rps.length - i) 0 [0, 1, 5] (.cons rfl (.cons rfl (.cons rfl .nil))) ⟨by omega, rfl⟩ fun i ⟨hi, hs⟩ => ?_
    repeat refine J.seq ?_
    refine J.plain ?_
    refine JO.t (ob_move rfl) rfl ?_
    refine JO.t (ob_move rfl) rfl ?_
    refine JO.t (ob_len un_sl_sl_api_Value rfl) rfl ?_
    refine JO.t (ob_lss rfl rfl) rfl ?_
    refine JO.nil ?_
    repeat (first | refine JX.next ?_ | refine JX.normal_block ?_)
    refine J.sel [0, 1, 5, 14] (.cons rfl (.cons rfl (.cons rfl (.cons rfl .nil)))) ?_
    repeat refine J.seq ?_
    refine J.cond rfl (fun ht14 => ?_) (fun ht14 => ?_)
    ·
      try simp only [decide_eq_true_eq, decide_eq_false_iff_not] at ht14
      refine J.skip ?_
      repeat (first | refine JX.next ?_ | refine JX.normal_block ?_)
      repeat refine J.seq ?_
      refine J.block ?_
      repeat refine J.seq ?_
      refine J.reg0 hmx (by kernel_rfl) (by kernel_rfl) ?_
      refine RT.t (ob_move rfl) ?_
      refine RT.t (ob_move rfl) ?_
      refine RT.t (ob_indexAddr el_sl_sl_api_Value rfl (hra (by omega)) rfl (by omega) (by omega)) ?_
      refine RT.t (ob_loadG1 (enc := RV.c) (sz := 1) (i := i) (j := 0) (y := rps.getD i rv0) (u := (rps.getD i rv0).v) sz_sl_api_Value rfl (by repeat (first | exact List.mem_cons_self | apply List.mem_cons_of_mem)) (hra (by omega)) (getD_some (by omega)) (by omega) rfl) ?_
      refine RT.t (ob_move rfl) ?_
      refine RT.t (ob_move rfl) ?_
      refine RT.t (ob_indexAddr el_sl_sl_api_Value rfl (hka (by omega)) rfl (by omega) (by omega)) ?_
      refine RT.t (ob_loadG1 (enc := RV.c) (sz := 1) (i := i) (j := 0) (y := kps.getD i rv0) (u := (kps.getD i rv0).v) sz_sl_api_Value rfl (by repeat (first | exact List.mem_cons_self | apply List.mem_cons_of_mem)) (hka (by omega)) (getD_some (by omega)) (by omega) rfl) ?_
      refine RT.t (ob_call rfl (c_ref01_Same (rps.getD i rv0).row (kps.getD i rv0).row (hx _ (List.mem_map_of_mem (getD_mem (by omega))))) (.sub rfl (Sub.rvS (p := rps.getD i rv0) (getD_mem (by omega)) (by repeat (first | exact List.mem_cons_self | apply List.mem_cons_of_mem))) (.sub rfl (Sub.rvS (p := kps.getD i rv0) (getD_mem (by omega)) (by repeat (first | exact List.mem_cons_self | apply List.mem_cons_of_mem))) .nil))) ?_
      refine RT.t (ob_not rfl) ?_
      refine RT.nil ?_
      refine FinS.nil0 ?_
      repeat (first | refine JX.next ?_ | refine JX.normal_block ?_)
      refine J.sel [0, 1, 5, 26] (.cons rfl (.cons rfl (.cons rfl (.cons rfl .nil)))) ?_
      repeat refine J.seq ?_
      refine J.cond rfl (fun ht26 => ?_) (fun ht26 => ?_)
      ·
        try simp only [decide_eq_true_eq, decide_eq_false_iff_not] at ht26
        repeat refine J.seq ?_
        refine J.plain ?_
        refine JO.t (ob_assign rfl) rfl ?_
        refine JO.nil ?_
        repeat (first | refine JX.next ?_ | refine JX.normal_block ?_)
        refine J.sel [4] (.cons rfl .nil) ?_
        repeat refine J.seq ?_
        refine J.ret ?_
        repeat (first | refine JX.ret_pass ?_ | refine JX.ret_block ?_)
        exact JX.ret1is rfl rfl (by rw [← hs, sameR_drop (i := i) (by simpa using ht14) (by simp; omega), row_getD (by omega), row_getD (by omega), show sameV (rps.getD i rv0).row (kps.getD i rv0).row = false by simpa only [Bool.not_eq_true'] using ht26]; rfl)
      ·
        try simp only [decide_eq_true_eq, decide_eq_false_iff_not] at ht26
        refine J.skip ?_
        repeat (first | refine JX.next ?_ | refine JX.normal_block ?_)
        repeat refine J.seq ?_
        refine J.plain ?_
        refine JO.t (ob_move rfl) rfl ?_
        refine JO.t (ob_addc (cc := ((i + 1 : Nat) : Int)) rfl rfl (by omega) (by omega) (by omega)) rfl ?_
        refine JO.t (ob_assign rfl) rfl ?_
        refine JO.nil ?_
        repeat refine JX.normal_block ?_
        refine JX.roundS (i + 1) ?_ ?_ [0, 1, 5] ?_ ?_ ?_
        · exact ⟨by omega, by rw [← hs, sameR_drop (i := i) (by simpa using ht14) (by simp; omega), row_getD (by omega), row_getD (by omega), show sameV (rps.getD i rv0).row (kps.getD i rv0).row = true by simpa only [Bool.not_eq_false'] using ht26]; rfl⟩
        · exact (by omega)
        · exact (.cons rfl (.cons rfl (.cons rfl .nil)))
        · repeat (first | exact .slnil | apply List.Sublist.cons_cons | apply List.Sublist.cons)
        · repeat (first | exact .slnil | apply List.Sublist.cons_cons | apply List.Sublist.cons)
    ·
      try simp only [decide_eq_true_eq, decide_eq_false_iff_not] at ht14
      repeat refine J.seq ?_
      refine J.exit ?_
      repeat (first | refine JX.hit ?_ | refine JX.miss rfl ?_ | refine JX.exit_pass ?_)
      repeat (first | refine JX.next ?_ | refine JX.normal_block ?_)
      repeat refine J.seq ?_
      refine J.plain ?_
      refine JO.t (ob_assign rfl) rfl ?_
      refine JO.nil ?_
      repeat (first | refine JX.next ?_ | refine JX.normal_block ?_)
      refine J.sel [4] (.cons rfl .nil) ?_
      repeat refine J.seq ?_
      refine J.ret ?_
      repeat (first | refine JX.ret_pass ?_ | refine JX.ret_block ?_)
      exact JX.ret1is rfl rfl (by rw [← hs, List.drop_eq_nil_of_le (by simp; omega), List.drop_eq_nil_of_le (by simp; omega)]; rfl)
end Go.Proofs.Ytgpikmonklainaa
