/- What an expression comes to: both sides. No condition. -/
import Derived.Test.YtjlojkchgfeenaaXE
import Derived.Test.YtjlojkchgfeenaaXG1
set_option maxRecDepth 20000
namespace Go.Proofs.Ytjlojkchgfeenaa
open Go Go.Vc
theorem ops_nth {k c : Int} (h0 : ¬ 16 ≤ k) (h1 : ¬ k ≤ 9) : nth (Value.agg #[(.bool (c == 0)), (.bool (c != 0)), (.bool (decide (c < 0))), (.bool (decide (c ≤ 0))), (.bool (decide (0 < c))), (.bool (decide (0 ≤ c)))]).cells.toList ((k - 10).toNat * 1) = some (.bool (opsF k c)) := by
  have : k = 10 ∨ k = 11 ∨ k = 12 ∨ k = 13 ∨ k = 14 ∨ k = 15 := by omega
  rcases this with rfl | rfl | rfl | rfl | rfl | rfl <;> rfl
theorem lgo_step {k : Int} {A : Nat → V3 × Int} {i : Nat} {nl : Bool} {r : V3 × Int} (hi : i < 2) (hr : A i = r) : refLgo k A (2 - i) i nl = if (r.2 != 0) then (zero3, r.2) else if ((r.1.k != 0) && (r.1.k != 2)) then (zero3, 33) else if (veq r.1.k r.1.n r.1.s 2 (truthN (k == 17)) ⟨#[]⟩) then (truthF (k == 17), 0) else refLgo k A (2 - (i + 1)) (i + 1) (nl || (r.1.k == 0)) := by
  subst hr
  rw [show 2 - i = (2 - (i + 1)) + 1 by omega, refLgo]
  rfl
def evalF (vals : List V3) (x : Ex) : V3 × Int := if ((findF vals x 0).2 != 0) then (zero3, (findF vals x 0).2) else ((findF vals x 0).1, 0)
def holdsF (r : V3 × Int) : Bool × Int :=
  if (((r.2 == 0) && (r.1.k != 0)) && (r.1.k != 2)) then (false, 33) else (((r.2 == 0) && (r.1.k == 2)) && (r.1.n == 1), r.2)
def refHoldsF (r : V3 × Int) : Bool × Int := if (r.2 != 0) then (false, r.2) else if ((r.1.k != 0) && (r.1.k != 2)) then (false, 33) else (veqV r.1 (truthF true), 0)
theorem c_expr_EvalM (vals : List V3) (k vk vn : Int) (vs tb nm : ByteArray) (sl : Int) (kids : List Ex) : CallTy Try.prog f_expr_Eval [.rep (ExR (.mk k vk vn vs tb nm sl kids)), .rep (RowS vals)] (.tup2 (.is (vv (evalF vals (.mk k vk vn vs tb nm sl kids)).1)) (.is (.int .i64 (evalF vals (.mk k vk vn vs tb nm sl kids)).2))) :=
  CallTy.of (fn := Try.f20) Try.func20 (n := 25) rfl rfl rfl (fun _ _ => by kernel_rfl) fun E W => by
  refine J.openEx (s := 0) rfl (fun a len cap b o hlen ha => ?_)
  refine J.openRow (s := 1) rfl (fun ra rl rc rb ro hrl hra => ?_)
  subst hrl
  repeat refine J.seq ?_
  refine J.plain ?_
  refine JO.box rfl rfl fun b2 => ?_
  refine JO.alloc zo_api_Value rfl fun b4 => ?_
  refine JO.t (ob_assign rfl) rfl ?_
  refine JO.nil ?_
  repeat (first | refine JX.next ?_ | refine JX.normal_block ?_)
  refine J.sel [1, 2, 4] (.cons rfl (.cons rfl (.cons rfl .nil))) ?_
  repeat refine J.seq ?_
  refine J.plain ?_
  refine JO.t (ob_move rfl) rfl ?_
  refine JO.t (ob_build (cs := [_, _]) sh_expr_finder (.cons rfl .nil) rfl rfl) rfl ?_
  refine JO.box rfl rfl fun b10 => ?_
  refine JO.t (ob_assign rfl) rfl ?_
  refine JO.nil ?_
  repeat (first | refine JX.next ?_ | refine JX.normal_block ?_)
  refine J.sel [2, 4, 6] (.cons rfl (.cons rfl (.cons rfl .nil))) ?_
  repeat refine J.seq ?_
  refine J.plain ?_
  refine JO.t (ob_move rfl) rfl ?_
  refine JO.t (ob_ldN (cs := [_, _, _, _, _, _, _, _]) sz_api_Expr rfl rfl rfl) rfl ?_
  refine JO.md (obm_call rfl rfl (findOK (.mk k vk vn vs tb nm sl kids) vals ra vals.length rc 0) (by repeat (first | exact .here | apply Upd.there)) (by simp) (.sub rfl (Sub.fact (by simp [exCells])) .nil)) (by rfl) rfl ?_
  refine JO.alloc zo_api_Value rfl fun b7 => ?_
  refine JO.m (obm_store rfl rfl (by repeat (first | exact .here | apply Upd.there)) (by first | exact cnt_is rfl rfl | exact cnt_ex) (by first | exact cnt_is rfl rfl | exact cnt_ex | exact cnt_aggO) ss_api_Value) (by rfl) ?_
  refine JO.nil ?_
  repeat (first | refine JX.next ?_ | refine JX.normal_block ?_)
  refine J.sel [4, 6, 7] (.cons rfl (.cons rfl (.cons rfl .nil))) ?_
  repeat refine J.seq ?_
  refine J.plain ?_
  refine JO.t (ob_move rfl) rfl ?_
  refine JO.t (ob_nilCheck rfl) rfl ?_
  refine JO.t (ob_fieldAddr fo_expr_finder_1 rfl) rfl ?_
  refine JO.t (ob_ld1 sz_api_Errno rfl rfl) rfl ?_
  refine JO.t (ob_neq rfl rfl) rfl ?_
  refine JO.nil ?_
  repeat (first | refine JX.next ?_ | refine JX.normal_block ?_)
  refine J.sel [4, 6, 7, 18] (.cons rfl (.cons rfl (.cons rfl (.cons rfl .nil)))) ?_
  repeat refine J.seq ?_
  refine J.cond rfl (fun ht18 => ?_) (fun ht18 => ?_)
  ·
    try simp only [decide_eq_true_eq, decide_eq_false_iff_not] at ht18
    repeat refine J.seq ?_
    refine J.front b4 (by repeat (first | exact .here | apply Front.there)) ?_
    refine J.reg1 hmx (by kernel_rfl) (by kernel_rfl) ?_
    refine RT.t (ob_build (cs := [_, _, _]) sh_api_Value .nil rfl rfl) ?_
    refine RT.t (ob_move rfl) ?_
    refine RT.t (ob_nilCheck rfl) ?_
    refine RT.t (ob_fieldAddr fo_expr_finder_1 rfl) ?_
    refine RT.t (ob_ld1 sz_api_Errno rfl rfl) ?_
    refine RT.m rfl (obm_store rfl rfl (by repeat (first | exact .here | apply Upd.there)) (by first | exact cnt_is rfl rfl | exact cnt_ex) (by first | exact cnt_is rfl rfl | exact cnt_ex | exact cnt_aggO) ss_api_Value) (by rfl) ?_
    refine RT.t (ob_assign rfl) ?_
    refine RT.nil ?_
    refine FinS.nil1 ?_
    repeat (first | refine JX.next ?_ | refine JX.normal_block ?_)
    refine J.sel [4, 5] (.cons rfl (.cons rfl .nil)) ?_
    repeat refine J.seq ?_
    refine J.ret ?_
    repeat (first | refine JX.ret_pass ?_ | refine JX.ret_block ?_)
    exact JX.retC1is rfl rfl sz_api_Value HasOwn.mem rfl rfl (by first | (simp +decide only [evalF, *, ↓reduceIte] <;> rfl) | (simp_all [evalF]; done) | (simp only [evalF, zero3, *, ↓reduceIte, Bool.false_eq_true]; done) | (simp_all [evalF, zero3]; done) | (simp [evalF, zero3, *]; done)) (by first | (simp +decide only [evalF, *, ↓reduceIte] <;> rfl) | (simp_all [evalF]; done) | (simp only [evalF, zero3, *, ↓reduceIte, Bool.false_eq_true]; done) | (simp_all [evalF, zero3]; done) | (simp [evalF, zero3, *]; done))
  ·
    try simp only [decide_eq_true_eq, decide_eq_false_iff_not] at ht18
    refine J.skip ?_
    repeat (first | refine JX.next ?_ | refine JX.normal_block ?_)
    repeat refine J.seq ?_
    refine J.plain ?_
    refine JO.t (ob_ldN (cs := [_, _, _]) sz_api_Value rfl rfl rfl) rfl ?_
    refine JO.m (obm_store rfl rfl (by repeat (first | exact .here | apply Upd.there)) (by first | exact cnt_is rfl rfl | exact cnt_ex) (by first | exact cnt_is rfl rfl | exact cnt_ex | exact cnt_aggO) ss_api_Value) (by rfl) ?_
    refine JO.t (ob_assign rfl) rfl ?_
    refine JO.nil ?_
    repeat (first | refine JX.next ?_ | refine JX.normal_block ?_)
    refine J.sel [4, 5] (.cons rfl (.cons rfl .nil)) ?_
    repeat refine J.seq ?_
    refine J.ret ?_
    repeat (first | refine JX.ret_pass ?_ | refine JX.ret_block ?_)
    exact JX.retC1is rfl rfl sz_api_Value HasOwn.mem rfl rfl (by first | (simp +decide only [evalF, *, ↓reduceIte] <;> rfl) | (simp_all [evalF]; done) | (simp only [evalF, zero3, *, ↓reduceIte, Bool.false_eq_true]; done) | (simp_all [evalF, zero3]; done) | (simp [evalF, zero3, *]; done)) (by first | (simp +decide only [evalF, *, ↓reduceIte] <;> rfl) | (simp_all [evalF]; done) | (simp only [evalF, zero3, *, ↓reduceIte, Bool.false_eq_true]; done) | (simp_all [evalF, zero3]; done) | (simp [evalF, zero3, *]; done))
theorem c_expr_Eval (vals : List V3) : ∀ x : Ex, CallTy Try.prog f_expr_Eval [.rep (ExR x), .rep (RowS vals)] (.tup2 (.is (vv (evalF vals x).1)) (.is (.int .i64 (evalF vals x).2)))
  | .mk k vk vn vs tb nm sl kids => c_expr_EvalM vals k vk vn vs tb nm sl kids
theorem c_expr_HoldsM (vals : List V3) (k vk vn : Int) (vs tb nm : ByteArray) (sl : Int) (kids : List Ex) : CallTy Try.prog f_expr_Holds [.rep (ExR (.mk k vk vn vs tb nm sl kids)), .rep (RowS vals)] (.tup2 (.is (.bool (holdsF (evalF vals (.mk k vk vn vs tb nm sl kids))).1)) (.is (.int .i64 (holdsF (evalF vals (.mk k vk vn vs tb nm sl kids))).2))) :=
  CallTy.of (fn := Try.f23) Try.func23 (n := 39) rfl rfl rfl (fun _ _ => by kernel_rfl) fun E W => by
  refine J.openEx (s := 0) rfl (fun a len cap b o hlen ha => ?_)
  repeat refine J.seq ?_
  refine J.plain ?_
  refine JO.box rfl rfl fun b2 => ?_
  refine JO.t (ob_assign rfl) rfl ?_
  refine JO.t (ob_assign rfl) rfl ?_
  refine JO.nil ?_
  repeat (first | refine JX.next ?_ | refine JX.normal_block ?_)
  refine J.sel [1, 2] (.cons rfl (.cons rfl .nil)) ?_
  repeat refine J.seq ?_
  refine J.plain ?_
  refine JO.t (ob_ldN (cs := [_, _, _, _, _, _, _, _]) sz_api_Expr rfl rfl rfl) rfl ?_
  refine JO.t (ob_move rfl) rfl ?_
  refine JO.t (ob_call rfl (c_expr_Eval vals (.mk k vk vn vs tb nm sl kids)) (.sub rfl (Sub.fact (by simp [exCells])) (.one rfl .nil))) rfl ?_
  refine JO.t (ob_move rfl) rfl ?_
  refine JO.t (ob_extract0 rfl) rfl ?_
  refine JO.t (ob_extract1 rfl) rfl ?_
  refine JO.alloc zo_api_Value rfl fun b6 => ?_
  refine JO.m (obm_store rfl rfl (by repeat (first | exact .here | apply Upd.there)) (by first | exact cnt_is rfl rfl | exact cnt_ex) (by first | exact cnt_is rfl rfl | exact cnt_ex | exact cnt_aggO) ss_api_Value) (by rfl) ?_
  refine JO.t (ob_assign rfl) rfl ?_
  refine JO.nil ?_
  repeat (first | refine JX.next ?_ | refine JX.normal_block ?_)
  refine J.sel [6, 7] (.cons rfl (.cons rfl .nil)) ?_
  repeat refine J.seq ?_
  refine J.reg0 hmx (by kernel_rfl) (by kernel_rfl) ?_
  refine RT.t (ob_move rfl) ?_
  refine RT.t (ob_eql rfl rfl) ?_
  refine RT.t (ob_move rfl) ?_
  refine RT.g rfl rfl rfl (fun hg => ob_fieldAddr fo_api_Value_0 (.inl rfl)) ?_
  refine RT.g rfl rfl rfl (fun hg => ob_ld1 sz_int (.inr ⟨_, rfl, fun h => h⟩) rfl) ?_
  refine RT.g rfl rfl rfl (fun hg => ob_neq (.inr ⟨_, rfl, fun h => h⟩) (.inl rfl)) ?_
  refine RT.t (ob_pickAnd rfl rfl rfl id) ?_
  refine RT.t (ob_move rfl) ?_
  refine RT.g rfl rfl rfl (fun hg => ob_fieldAddr fo_api_Value_0 (.inl rfl)) ?_
  refine RT.g rfl rfl rfl (fun hg => ob_ld1 sz_int (.inr ⟨_, rfl, fun h => h⟩) rfl) ?_
  refine RT.g rfl rfl rfl (fun hg => ob_neq (.inr ⟨_, rfl, fun h => h⟩) (.inl rfl)) ?_
  refine RT.t (ob_pickAnd rfl rfl rfl id) ?_
  refine RT.nil ?_
  refine FinS.nil0 ?_
  repeat (first | refine JX.next ?_ | refine JX.normal_block ?_)
  refine J.sel [6, 7, 25] (.cons rfl (.cons rfl (.cons rfl .nil))) ?_
  repeat refine J.seq ?_
  refine J.cond rfl (fun ht25 => ?_) (fun ht25 => ?_)
  ·
    try simp only [decide_eq_true_eq, decide_eq_false_iff_not] at ht25
    repeat refine J.seq ?_
    refine J.plain ?_
    refine JO.t (ob_assign rfl) rfl ?_
    refine JO.nil ?_
    repeat (first | refine JX.next ?_ | refine JX.normal_block ?_)
    refine J.sel [6, 7] (.cons rfl (.cons rfl .nil)) ?_
    repeat refine J.seq ?_
    refine J.reg0 hmx (by kernel_rfl) (by kernel_rfl) ?_
    refine RT.t (ob_move rfl) ?_
    refine RT.t (ob_eql rfl rfl) ?_
    refine RT.t (ob_move rfl) ?_
    refine RT.g rfl rfl rfl (fun hg => ob_fieldAddr fo_api_Value_0 (.inl rfl)) ?_
    refine RT.g rfl rfl rfl (fun hg => ob_ld1 sz_int (.inr ⟨_, rfl, fun h => h⟩) rfl) ?_
    refine RT.g rfl rfl rfl (fun hg => ob_eql (.inr ⟨_, rfl, fun h => h⟩) (.inl rfl)) ?_
    refine RT.t (ob_pickAnd rfl rfl rfl id) ?_
    refine RT.t (ob_move rfl) ?_
    refine RT.g rfl rfl rfl (fun hg => ob_fieldAddr fo_api_Value_1 (.inl rfl)) ?_
    refine RT.g rfl rfl rfl (fun hg => ob_ld1 sz_int64 (.inr ⟨_, rfl, fun h => h⟩) rfl) ?_
    refine RT.g rfl rfl rfl (fun hg => ob_eql (.inr ⟨_, rfl, fun h => h⟩) (.inl rfl)) ?_
    refine RT.t (ob_pickAnd rfl rfl rfl id) ?_
    refine RT.t (ob_move rfl) ?_
    refine RT.t (ob_assign rfl) ?_
    refine RT.t (ob_assign rfl) ?_
    refine RT.nil ?_
    refine FinS.nil0 ?_
    repeat (first | refine JX.next ?_ | refine JX.normal_block ?_)
    refine J.sel [4, 5] (.cons rfl (.cons rfl .nil)) ?_
    repeat refine J.seq ?_
    refine J.ret ?_
    repeat (first | refine JX.ret_pass ?_ | refine JX.ret_block ?_)
    exact JX.ret2is rfl rfl rfl (by first | (simp +decide only [holdsF, *, ↓reduceIte] <;> rfl) | (simp_all [holdsF]; done) | (simp only [holdsF, *, ↓reduceIte, Bool.false_eq_true]; done) | (simp_all [holdsF]; done) | (simp [holdsF, *]; done)) (by first | (simp +decide only [holdsF, *, ↓reduceIte] <;> rfl) | (simp_all [holdsF]; done) | (simp only [holdsF, *, ↓reduceIte, Bool.false_eq_true]; done) | (simp_all [holdsF]; done) | (simp [holdsF, *]; done))
  ·
    try simp only [decide_eq_true_eq, decide_eq_false_iff_not] at ht25
    refine J.skip ?_
    repeat (first | refine JX.next ?_ | refine JX.normal_block ?_)
    repeat refine J.seq ?_
    refine J.reg0 hmx (by kernel_rfl) (by kernel_rfl) ?_
    refine RT.t (ob_move rfl) ?_
    refine RT.t (ob_eql rfl rfl) ?_
    refine RT.t (ob_move rfl) ?_
    refine RT.g rfl rfl rfl (fun hg => ob_fieldAddr fo_api_Value_0 (.inl rfl)) ?_
    refine RT.g rfl rfl rfl (fun hg => ob_ld1 sz_int (.inr ⟨_, rfl, fun h => h⟩) rfl) ?_
    refine RT.g rfl rfl rfl (fun hg => ob_eql (.inr ⟨_, rfl, fun h => h⟩) (.inl rfl)) ?_
    refine RT.t (ob_pickAnd rfl rfl rfl id) ?_
    refine RT.t (ob_move rfl) ?_
    refine RT.g rfl rfl rfl (fun hg => ob_fieldAddr fo_api_Value_1 (.inl rfl)) ?_
    refine RT.g rfl rfl rfl (fun hg => ob_ld1 sz_int64 (.inr ⟨_, rfl, fun h => h⟩) rfl) ?_
    refine RT.g rfl rfl rfl (fun hg => ob_eql (.inr ⟨_, rfl, fun h => h⟩) (.inl rfl)) ?_
    refine RT.t (ob_pickAnd rfl rfl rfl id) ?_
    refine RT.t (ob_move rfl) ?_
    refine RT.t (ob_assign rfl) ?_
    refine RT.t (ob_assign rfl) ?_
    refine RT.nil ?_
    refine FinS.nil0 ?_
    repeat (first | refine JX.next ?_ | refine JX.normal_block ?_)
    refine J.sel [4, 5] (.cons rfl (.cons rfl .nil)) ?_
    repeat refine J.seq ?_
    refine J.ret ?_
    repeat (first | refine JX.ret_pass ?_ | refine JX.ret_block ?_)
    exact JX.ret2is rfl rfl rfl (by first | (simp +decide only [holdsF, *, ↓reduceIte] <;> rfl) | (simp_all [holdsF]; done) | (simp only [holdsF, *, ↓reduceIte, Bool.false_eq_true]; done) | (simp_all [holdsF]; done) | (simp [holdsF, *]; done)) (by first | (simp +decide only [holdsF, *, ↓reduceIte] <;> rfl) | (simp_all [holdsF]; done) | (simp only [holdsF, *, ↓reduceIte, Bool.false_eq_true]; done) | (simp_all [holdsF]; done) | (simp [holdsF, *]; done))
theorem c_expr_Holds (vals : List V3) : ∀ x : Ex, CallTy Try.prog f_expr_Holds [.rep (ExR x), .rep (RowS vals)] (.tup2 (.is (.bool (holdsF (evalF vals x)).1)) (.is (.int .i64 (holdsF (evalF vals x)).2)))
  | .mk k vk vn vs tb nm sl kids => c_expr_HoldsM vals k vk vn vs tb nm sl kids
theorem c_ref12_one (vals : List V3) (k vk vn : Int) (vs tb nm : ByteArray) (sl : Int) (kids : List Ex) (hv : ∀ v ∈ vals, v.rng) (hx : exsRng kids) (hO : ∀ x ∈ kids, RefOK x) (hl : kids.length = 1) : CallTy Try.prog f_ref12_one [.rep (ExR (.mk k vk vn vs tb nm sl kids)), .rep (RowS vals)] (.tup2 (.is (vv (refOneF k (refAt vals kids 0)).1)) (.is (.int .i64 (refOneF k (refAt vals kids 0)).2))) :=
  CallTy.of (fn := Try.f40) Try.func40 (n := 71) rfl rfl rfl (fun _ _ => by kernel_rfl) fun E W => by
  refine J.openEx (s := 0) rfl (fun a len cap b o hlen ha => ?_)
  rw [refAt_get vals kids 0 (by omega)]
  repeat refine J.seq ?_
  refine J.plain ?_
  refine JO.box rfl rfl fun b2 => ?_
  refine JO.alloc zo_api_Value rfl fun b4 => ?_
  refine JO.t (ob_assign rfl) rfl ?_
  refine JO.nil ?_
  repeat (first | refine JX.next ?_ | refine JX.normal_block ?_)
  refine J.sel [1, 2, 4] (.cons rfl (.cons rfl (.cons rfl .nil))) ?_
  repeat refine J.seq ?_
  refine J.plain ?_
  refine JO.t (ob_fieldAddr fo_api_Expr_5 rfl) rfl ?_
  refine JO.t (ob_ld1 sz_sl_api_Expr rfl rfl) rfl ?_
  refine JO.t (ob_indexAddr el_sl_api_Expr rfl (ha (by omega)) rfl (by omega) (by omega)) rfl ?_
  refine JO.t (ob_loadKid (i := 0) sz_api_Expr rfl List.mem_cons_self (ha (by omega)) (kid_get (by omega)) (by omega)) rfl ?_
  refine JO.t (ob_move rfl) rfl ?_
  refine JO.t (ob_call rfl (hO (kids.getD 0 exD) (kid_mem (by omega)) vals hv) (.one rfl (.one rfl .nil))) rfl ?_
  refine JO.t (ob_move rfl) rfl ?_
  refine JO.t (ob_extract0 rfl) rfl ?_
  refine JO.t (ob_extract1 rfl) rfl ?_
  refine JO.alloc zo_api_Value rfl fun b6 => ?_
  refine JO.m (obm_store rfl rfl (by repeat (first | exact .here | apply Upd.there)) (by first | exact cnt_is rfl rfl | exact cnt_ex) (by first | exact cnt_is rfl rfl | exact cnt_ex | exact cnt_aggO) ss_api_Value) (by rfl) ?_
  refine JO.t (ob_assign rfl) rfl ?_
  refine JO.nil ?_
  repeat (first | refine JX.next ?_ | refine JX.normal_block ?_)
  refine J.sel [2, 4, 6, 7] (.cons rfl (.cons rfl (.cons rfl (.cons rfl .nil)))) ?_
  repeat refine J.seq ?_
  refine J.plain ?_
  refine JO.t (ob_move rfl) rfl ?_
  refine JO.t (ob_neq rfl rfl) rfl ?_
  refine JO.nil ?_
  repeat (first | refine JX.next ?_ | refine JX.normal_block ?_)
  refine J.sel [2, 4, 6, 7, 18] (.cons rfl (.cons rfl (.cons rfl (.cons rfl (.cons rfl .nil))))) ?_
  repeat refine J.seq ?_
  refine J.cond rfl (fun ht18 => ?_) (fun ht18 => ?_)
  ·
    try simp only [decide_eq_true_eq, decide_eq_false_iff_not] at ht18
    repeat refine J.seq ?_
    refine J.plain ?_
    refine JO.t (ob_build (cs := [_, _, _]) sh_api_Value .nil rfl rfl) rfl ?_
    refine JO.t (ob_move rfl) rfl ?_
    refine JO.m (obm_store rfl rfl (by repeat (first | exact .here | apply Upd.there)) (by first | exact cnt_is rfl rfl | exact cnt_ex) (by first | exact cnt_is rfl rfl | exact cnt_ex | exact cnt_aggO) ss_api_Value) (by rfl) ?_
    refine JO.t (ob_assign rfl) rfl ?_
    refine JO.nil ?_
    repeat (first | refine JX.next ?_ | refine JX.normal_block ?_)
    refine J.sel [4, 5] (.cons rfl (.cons rfl .nil)) ?_
    repeat refine J.seq ?_
    refine J.ret ?_
    repeat (first | refine JX.ret_pass ?_ | refine JX.ret_block ?_)
    exact JX.retC1is rfl rfl sz_api_Value HasOwn.mem rfl rfl (by first | (simp +decide only [refOneF, *, ↓reduceIte] <;> rfl) | (simp_all [refOneF]; done) | (simp only [refOneF, zero3, truthF, *, ↓reduceIte, Bool.false_eq_true]; done) | (simp_all [refOneF, zero3, truthF]; done) | (simp [refOneF, zero3, truthF, *]; done)) (by first | (simp +decide only [refOneF, *, ↓reduceIte] <;> rfl) | (simp_all [refOneF]; done) | (simp only [refOneF, zero3, truthF, *, ↓reduceIte, Bool.false_eq_true]; done) | (simp_all [refOneF, zero3, truthF]; done) | (simp [refOneF, zero3, truthF, *]; done))
  ·
    try simp only [decide_eq_true_eq, decide_eq_false_iff_not] at ht18
    refine J.skip ?_
    repeat (first | refine JX.next ?_ | refine JX.normal_block ?_)
    repeat refine J.seq ?_
    refine J.block ?_
    repeat refine J.seq ?_
    refine J.reg0 hmx (by kernel_rfl) (by kernel_rfl) ?_
    refine RT.t (ob_fieldAddr fo_api_Expr_0 rfl) ?_
    refine RT.t (ob_ld1 sz_int rfl rfl) ?_
    refine RT.t (ob_eql rfl rfl) ?_
    refine RT.t (ob_move rfl) ?_
    refine RT.g rfl rfl rfl (fun hg => ob_fieldAddr fo_api_Expr_0 (.inl rfl)) ?_
    refine RT.g rfl rfl rfl (fun hg => ob_ld1 sz_int (.inr ⟨_, rfl, fun h => h⟩) rfl) ?_
    refine RT.g rfl rfl rfl (fun hg => ob_eql (.inr ⟨_, rfl, fun h => h⟩) (.inl rfl)) ?_
    refine RT.t (ob_pickOr rfl rfl rfl id) ?_
    refine RT.t (ob_assign rfl) ?_
    refine RT.nil ?_
    refine FinS.nil0 ?_
    repeat (first | refine JX.next ?_ | refine JX.normal_block ?_)
    refine J.sel [2, 4, 6, 21] (.cons rfl (.cons rfl (.cons rfl (.cons rfl .nil)))) ?_
    repeat refine J.seq ?_
    refine J.cond rfl (fun ht21 => ?_) (fun ht21 => ?_)
    ·
      try simp only [decide_eq_true_eq, decide_eq_false_iff_not] at ht21
      repeat refine J.seq ?_
      refine J.plain ?_
      refine JO.t (ob_fieldAddr fo_api_Value_0 rfl) rfl ?_
      refine JO.t (ob_ld1 sz_int rfl rfl) rfl ?_
      refine JO.t (ob_eql rfl rfl) rfl ?_
      refine JO.t (ob_fieldAddr fo_api_Expr_0 rfl) rfl ?_
      refine JO.t (ob_ld1 sz_int rfl rfl) rfl ?_
      refine JO.t (ob_eql rfl rfl) rfl ?_
      refine JO.t (ob_beql un_bool rfl rfl) rfl ?_
      refine JO.t (ob_call rfl (c_ref12_Truth _) (.one rfl .nil)) rfl ?_
      refine JO.m (obm_store rfl rfl (by repeat (first | exact .here | apply Upd.there)) (by first | exact cnt_is rfl rfl | exact cnt_ex) (by first | exact cnt_is rfl rfl | exact cnt_ex | exact cnt_aggO) ss_api_Value) (by rfl) ?_
      refine JO.t (ob_assign rfl) rfl ?_
      refine JO.nil ?_
      repeat (first | refine JX.next ?_ | refine JX.normal_block ?_)
      refine J.sel [4, 5] (.cons rfl (.cons rfl .nil)) ?_
      repeat refine J.seq ?_
      refine J.ret ?_
      repeat (first | refine JX.ret_pass ?_ | refine JX.ret_block ?_)
      exact JX.retC1is rfl rfl sz_api_Value HasOwn.mem rfl rfl (by first | (simp +decide only [refOneF, *, ↓reduceIte] <;> rfl) | (simp_all [refOneF]; done) | (simp only [refOneF, zero3, truthF, *, ↓reduceIte, Bool.false_eq_true]; done) | (simp_all [refOneF, zero3, truthF]; done) | (simp [refOneF, zero3, truthF, *]; done)) (by first | (simp +decide only [refOneF, *, ↓reduceIte] <;> rfl) | (simp_all [refOneF]; done) | (simp only [refOneF, zero3, truthF, *, ↓reduceIte, Bool.false_eq_true]; done) | (simp_all [refOneF, zero3, truthF]; done) | (simp [refOneF, zero3, truthF, *]; done))
    ·
      try simp only [decide_eq_true_eq, decide_eq_false_iff_not] at ht21
      repeat refine J.seq ?_
      refine J.plain ?_
      refine JO.t (ob_fieldAddr fo_api_Value_0 rfl) rfl ?_
      refine JO.t (ob_ld1 sz_int rfl rfl) rfl ?_
      refine JO.t (ob_eql rfl rfl) rfl ?_
      refine JO.t (ob_assign rfl) rfl ?_
      refine JO.nil ?_
      repeat (first | refine JX.next ?_ | refine JX.normal_block ?_)
      refine J.sel [2, 4, 6, 38] (.cons rfl (.cons rfl (.cons rfl (.cons rfl .nil)))) ?_
      repeat refine J.seq ?_
      refine J.cond rfl (fun ht38 => ?_) (fun ht38 => ?_)
      ·
        try simp only [decide_eq_true_eq, decide_eq_false_iff_not] at ht38
        repeat refine J.seq ?_
        refine J.plain ?_
        refine JO.t (ob_ldN (cs := [_, _, _]) sz_api_Value rfl rfl rfl) rfl ?_
        refine JO.m (obm_store rfl rfl (by repeat (first | exact .here | apply Upd.there)) (by first | exact cnt_is rfl rfl | exact cnt_ex) (by first | exact cnt_is rfl rfl | exact cnt_ex | exact cnt_aggO) ss_api_Value) (by rfl) ?_
        refine JO.t (ob_assign rfl) rfl ?_
        refine JO.nil ?_
        repeat (first | refine JX.next ?_ | refine JX.normal_block ?_)
        refine J.sel [4, 5] (.cons rfl (.cons rfl .nil)) ?_
        repeat refine J.seq ?_
        refine J.ret ?_
        repeat (first | refine JX.ret_pass ?_ | refine JX.ret_block ?_)
        exact JX.retC1is rfl rfl sz_api_Value HasOwn.mem rfl rfl (by first | (simp +decide only [refOneF, *, ↓reduceIte] <;> rfl) | (simp_all [refOneF]; done) | (simp only [refOneF, zero3, truthF, *, ↓reduceIte, Bool.false_eq_true]; done) | (simp_all [refOneF, zero3, truthF]; done) | (simp [refOneF, zero3, truthF, *]; done)) (by first | (simp +decide only [refOneF, *, ↓reduceIte] <;> rfl) | (simp_all [refOneF]; done) | (simp only [refOneF, zero3, truthF, *, ↓reduceIte, Bool.false_eq_true]; done) | (simp_all [refOneF, zero3, truthF]; done) | (simp [refOneF, zero3, truthF, *]; done))
      ·
        try simp only [decide_eq_true_eq, decide_eq_false_iff_not] at ht38
        repeat refine J.seq ?_
        refine J.reg0 hmx (by kernel_rfl) (by kernel_rfl) ?_
        refine RT.t (ob_fieldAddr fo_api_Expr_0 rfl) ?_
        refine RT.t (ob_ld1 sz_int rfl rfl) ?_
        refine RT.t (ob_eql rfl rfl) ?_
        refine RT.t (ob_move rfl) ?_
        refine RT.g rfl rfl rfl (fun hg => ob_fieldAddr fo_api_Value_0 (.inl rfl)) ?_
        refine RT.g rfl rfl rfl (fun hg => ob_ld1 sz_int (.inr ⟨_, rfl, fun h => h⟩) rfl) ?_
        refine RT.g rfl rfl rfl (fun hg => ob_eql (.inr ⟨_, rfl, fun h => h⟩) (.inl rfl)) ?_
        refine RT.t (ob_pickAnd rfl rfl rfl id) ?_
        refine RT.t (ob_assign rfl) ?_
        refine RT.nil ?_
        refine FinS.nil0 ?_
        repeat (first | refine JX.next ?_ | refine JX.normal_block ?_)
        refine J.sel [2, 4, 6, 43] (.cons rfl (.cons rfl (.cons rfl (.cons rfl .nil)))) ?_
        repeat refine J.seq ?_
        refine J.cond rfl (fun ht43 => ?_) (fun ht43 => ?_)
        ·
          try simp only [decide_eq_true_eq, decide_eq_false_iff_not] at ht43
          repeat refine J.seq ?_
          refine J.plain ?_
          refine JO.t (ob_fieldAddr fo_api_Value_1 rfl) rfl ?_
          refine JO.t (ob_ld1 sz_int64 rfl rfl) rfl ?_
          refine JO.t (ob_eql rfl rfl) rfl ?_
          refine JO.t (ob_call rfl (c_ref12_Truth _) (.one rfl .nil)) rfl ?_
          refine JO.m (obm_store rfl rfl (by repeat (first | exact .here | apply Upd.there)) (by first | exact cnt_is rfl rfl | exact cnt_ex) (by first | exact cnt_is rfl rfl | exact cnt_ex | exact cnt_aggO) ss_api_Value) (by rfl) ?_
          refine JO.t (ob_assign rfl) rfl ?_
          refine JO.nil ?_
          repeat (first | refine JX.next ?_ | refine JX.normal_block ?_)
          refine J.sel [4, 5] (.cons rfl (.cons rfl .nil)) ?_
          repeat refine J.seq ?_
          refine J.ret ?_
          repeat (first | refine JX.ret_pass ?_ | refine JX.ret_block ?_)
          exact JX.retC1is rfl rfl sz_api_Value HasOwn.mem rfl rfl (by first | (simp +decide only [refOneF, *, ↓reduceIte] <;> rfl) | (simp_all [refOneF]; done) | (simp only [refOneF, zero3, truthF, *, ↓reduceIte, Bool.false_eq_true]; done) | (simp_all [refOneF, zero3, truthF]; done) | (simp [refOneF, zero3, truthF, *]; done)) (by first | (simp +decide only [refOneF, *, ↓reduceIte] <;> rfl) | (simp_all [refOneF]; done) | (simp only [refOneF, zero3, truthF, *, ↓reduceIte, Bool.false_eq_true]; done) | (simp_all [refOneF, zero3, truthF]; done) | (simp [refOneF, zero3, truthF, *]; done))
        ·
          try simp only [decide_eq_true_eq, decide_eq_false_iff_not] at ht43
          repeat refine J.seq ?_
          refine J.reg0 hmx (by kernel_rfl) (by kernel_rfl) ?_
          refine RT.t (ob_fieldAddr fo_api_Expr_0 rfl) ?_
          refine RT.t (ob_ld1 sz_int rfl rfl) ?_
          refine RT.t (ob_eql rfl rfl) ?_
          refine RT.t (ob_move rfl) ?_
          refine RT.g rfl rfl rfl (fun hg => ob_fieldAddr fo_api_Value_0 (.inl rfl)) ?_
          refine RT.g rfl rfl rfl (fun hg => ob_ld1 sz_int (.inr ⟨_, rfl, fun h => h⟩) rfl) ?_
          refine RT.g rfl rfl rfl (fun hg => ob_eql (.inr ⟨_, rfl, fun h => h⟩) (.inl rfl)) ?_
          refine RT.t (ob_pickAnd rfl rfl rfl id) ?_
          refine RT.t (ob_assign rfl) ?_
          refine RT.nil ?_
          refine FinS.nil0 ?_
          repeat (first | refine JX.next ?_ | refine JX.normal_block ?_)
          refine J.sel [4, 6, 56] (.cons rfl (.cons rfl (.cons rfl .nil))) ?_
          repeat refine J.seq ?_
          refine J.cond rfl (fun ht56 => ?_) (fun ht56 => ?_)
          ·
            try simp only [decide_eq_true_eq, decide_eq_false_iff_not] at ht56
            repeat refine J.seq ?_
            refine J.plain ?_
            refine JO.t (ob_fieldAddr fo_api_Value_1 rfl) rfl ?_
            refine JO.t (ob_ld1 sz_int64 rfl rfl) rfl ?_
            refine JO.t (ob_call rfl (c_ref12_number _ _ _ (refF_rng hv _ (exsRng_mem hx (kid_mem (by omega)))).2) (.one rfl (.one rfl (.one rfl .nil)))) rfl ?_
            refine JO.t (ob_extract0 rfl) rfl ?_
            refine JO.t (ob_extract1 rfl) rfl ?_
            refine JO.m (obm_store rfl rfl (by repeat (first | exact .here | apply Upd.there)) (by first | exact cnt_is rfl rfl | exact cnt_ex) (by first | exact cnt_is rfl rfl | exact cnt_ex | exact cnt_aggO) ss_api_Value) (by rfl) ?_
            refine JO.t (ob_assign rfl) rfl ?_
            refine JO.nil ?_
            repeat (first | refine JX.next ?_ | refine JX.normal_block ?_)
            refine J.sel [4, 5] (.cons rfl (.cons rfl .nil)) ?_
            repeat refine J.seq ?_
            refine J.ret ?_
            repeat (first | refine JX.ret_pass ?_ | refine JX.ret_block ?_)
            exact JX.retC1is rfl rfl sz_api_Value HasOwn.mem rfl rfl (by first | (simp +decide only [refOneF, *, ↓reduceIte] <;> rfl) | (simp_all [refOneF]; done) | (simp only [refOneF, zero3, truthF, *, ↓reduceIte, Bool.false_eq_true]; done) | (simp_all [refOneF, zero3, truthF]; done) | (simp [refOneF, zero3, truthF, *]; done)) (by first | (simp +decide only [refOneF, *, ↓reduceIte] <;> rfl) | (simp_all [refOneF]; done) | (simp only [refOneF, zero3, truthF, *, ↓reduceIte, Bool.false_eq_true]; done) | (simp_all [refOneF, zero3, truthF]; done) | (simp [refOneF, zero3, truthF, *]; done))
          ·
            try simp only [decide_eq_true_eq, decide_eq_false_iff_not] at ht56
            refine J.skip ?_
            repeat (first | refine JX.next ?_ | refine JX.normal_block ?_)
            repeat refine J.seq ?_
            refine J.plain ?_
            refine JO.t (ob_build (cs := [_, _, _]) sh_api_Value .nil rfl rfl) rfl ?_
            refine JO.m (obm_store rfl rfl (by repeat (first | exact .here | apply Upd.there)) (by first | exact cnt_is rfl rfl | exact cnt_ex) (by first | exact cnt_is rfl rfl | exact cnt_ex | exact cnt_aggO) ss_api_Value) (by rfl) ?_
            refine JO.t (ob_assign rfl) rfl ?_
            refine JO.nil ?_
            repeat (first | refine JX.next ?_ | refine JX.normal_block ?_)
            refine J.sel [4, 5] (.cons rfl (.cons rfl .nil)) ?_
            repeat refine J.seq ?_
            refine J.ret ?_
            repeat (first | refine JX.ret_pass ?_ | refine JX.ret_block ?_)
            exact JX.retC1is rfl rfl sz_api_Value HasOwn.mem rfl rfl (by first | (simp +decide only [refOneF, *, ↓reduceIte] <;> rfl) | (simp_all [refOneF]; done) | (simp only [refOneF, zero3, truthF, *, ↓reduceIte, Bool.false_eq_true]; done) | (simp_all [refOneF, zero3, truthF]; done) | (simp [refOneF, zero3, truthF, *]; done)) (by first | (simp +decide only [refOneF, *, ↓reduceIte] <;> rfl) | (simp_all [refOneF]; done) | (simp only [refOneF, zero3, truthF, *, ↓reduceIte, Bool.false_eq_true]; done) | (simp_all [refOneF, zero3, truthF]; done) | (simp [refOneF, zero3, truthF, *]; done))
theorem c_ref12_logic (vals : List V3) (k vk vn : Int) (vs tb nm : ByteArray) (sl : Int) (kids : List Ex) (hv : ∀ v ∈ vals, v.rng) (hx : exsRng kids) (hO : ∀ x ∈ kids, RefOK x) (hl : kids.length = 2) : CallTy Try.prog f_ref12_logic [.rep (ExR (.mk k vk vn vs tb nm sl kids)), .rep (RowS vals)] (.tup2 (.is (vv (refLgo k (refAt vals kids) 2 0 false).1)) (.is (.int .i64 (refLgo k (refAt vals kids) 2 0 false).2))) :=
  CallTy.of (fn := Try.f41) Try.func41 (n := 58) rfl rfl rfl (fun _ _ => by kernel_rfl) fun E W => by
  refine J.openEx (s := 0) rfl (fun a len cap b o hlen ha => ?_)
  repeat refine J.seq ?_
  refine J.plain ?_
  refine JO.box rfl rfl fun b2 => ?_
  refine JO.alloc zo_api_Value rfl fun b4 => ?_
  refine JO.t (ob_assign rfl) rfl ?_
  refine JO.nil ?_
  repeat (first | refine JX.next ?_ | refine JX.normal_block ?_)
  refine J.sel [1, 2, 4] (.cons rfl (.cons rfl (.cons rfl .nil))) ?_
  repeat refine J.seq ?_
  refine J.plain ?_
  refine JO.t (ob_fieldAddr fo_api_Expr_0 rfl) rfl ?_
  refine JO.t (ob_ld1 sz_int rfl rfl) rfl ?_
  refine JO.t (ob_eql rfl rfl) rfl ?_
  refine JO.t (ob_call rfl (c_ref12_Truth _) (.one rfl .nil)) rfl ?_
  refine JO.alloc zo_api_Value rfl fun b6 => ?_
  refine JO.m (obm_store rfl rfl (by repeat (first | exact .here | apply Upd.there)) (by first | exact cnt_is rfl rfl | exact cnt_ex) (by first | exact cnt_is rfl rfl | exact cnt_ex | exact cnt_aggO) ss_api_Value) (by rfl) ?_
  refine JO.nil ?_
  repeat (first | refine JX.next ?_ | refine JX.normal_block ?_)
  refine J.sel [1, 2, 4, 6] (.cons rfl (.cons rfl (.cons rfl (.cons rfl .nil)))) ?_
  repeat refine J.seq ?_
  refine J.plain ?_
  refine JO.t (ob_assign rfl) rfl ?_
  refine JO.nil ?_
  repeat (first | refine JX.next ?_ | refine JX.normal_block ?_)
  refine J.sel [1, 2, 4, 6, 7] (.cons rfl (.cons rfl (.cons rfl (.cons rfl (.cons rfl .nil))))) ?_
  repeat refine J.seq ?_
  refine J.plain ?_
  refine JO.t (ob_assign rfl) rfl ?_
  refine JO.nil ?_
  repeat (first | refine JX.next ?_ | refine JX.normal_block ?_)
  refine J.sel [1, 2, 4, 6, 7, 8] (.cons rfl (.cons rfl (.cons rfl (.cons rfl (.cons rfl (.cons rfl .nil)))))) ?_
  repeat refine J.seq ?_
  refine J.block ?_
  repeat refine J.seq ?_
  refine J.loopF (α := Nat × Bool) (fun s => [(1, .rep (RowS vals)), (2, _), (4, _), (6, _), (7, .is (.bool s.2)), (8, .is (.int .i64 (s.1 : Nat)))]) (fun s => s.1 ≤ 2 ∧ refLgo k (refAt vals kids) (2 - s.1) s.1 s.2 = refLgo k (refAt vals kids) 2 0 false) (fun s => 2 - s.1) (0, false) [1, 2, 4, 6, 7, 8] (.cons rfl (.cons rfl (.cons rfl (.cons rfl (.cons rfl (.cons rfl .nil)))))) ⟨by omega, rfl⟩ fun ⟨i, nl⟩ ⟨hi, hgo⟩ => ?_
  repeat refine J.seq ?_
  refine J.plain ?_
  refine JO.t (ob_move rfl) rfl ?_
  refine JO.t (ob_lss rfl rfl) rfl ?_
  refine JO.nil ?_
  repeat (first | refine JX.next ?_ | refine JX.normal_block ?_)
  refine J.sel [1, 2, 4, 6, 7, 8, 16] (.cons rfl (.cons rfl (.cons rfl (.cons rfl (.cons rfl (.cons rfl (.cons rfl .nil))))))) ?_
  repeat refine J.seq ?_
  refine J.cond rfl (fun ht16 => ?_) (fun ht16 => ?_)
  ·
    try simp only [decide_eq_true_eq, decide_eq_false_iff_not] at ht16
    refine J.skip ?_
    repeat (first | refine JX.next ?_ | refine JX.normal_block ?_)
    repeat refine J.seq ?_
    refine J.block ?_
    repeat refine J.seq ?_
    refine J.plain ?_
    refine JO.t (ob_fieldAddr fo_api_Expr_5 rfl) rfl ?_
    refine JO.t (ob_ld1 sz_sl_api_Expr rfl rfl) rfl ?_
    refine JO.t (ob_move rfl) rfl ?_
    refine JO.t (ob_indexAddr el_sl_api_Expr rfl (ha (by omega)) rfl (by omega) (by omega)) rfl ?_
    refine JO.t (ob_loadKid (i := i) sz_api_Expr rfl List.mem_cons_self (ha (by omega)) (kid_get (by omega)) (by omega)) rfl ?_
    refine JO.t (ob_move rfl) rfl ?_
    refine JO.t (ob_call rfl (hO (kids.getD i exD) (kid_mem (by omega)) vals hv) (.one rfl (.one rfl .nil))) rfl ?_
    refine JO.t (ob_move rfl) rfl ?_
    refine JO.t (ob_extract0 rfl) rfl ?_
    refine JO.t (ob_extract1 rfl) rfl ?_
    refine JO.alloc zo_api_Value rfl fun b9 => ?_
    refine JO.m (obm_store rfl rfl (by repeat (first | exact .here | apply Upd.there)) (by first | exact cnt_is rfl rfl | exact cnt_ex) (by first | exact cnt_is rfl rfl | exact cnt_ex | exact cnt_aggO) ss_api_Value) (by rfl) ?_
    refine JO.t (ob_assign rfl) rfl ?_
    refine JO.nil ?_
    repeat (first | refine JX.next ?_ | refine JX.normal_block ?_)
    refine J.sel [1, 2, 4, 6, 7, 8, 9, 10] (.cons rfl (.cons rfl (.cons rfl (.cons rfl (.cons rfl (.cons rfl (.cons rfl (.cons rfl .nil)))))))) ?_
    repeat refine J.seq ?_
    refine J.plain ?_
    refine JO.t (ob_move rfl) rfl ?_
    refine JO.t (ob_neq rfl rfl) rfl ?_
    refine JO.nil ?_
    repeat (first | refine JX.next ?_ | refine JX.normal_block ?_)
    refine J.sel [1, 2, 4, 6, 7, 8, 9, 10, 30] (.cons rfl (.cons rfl (.cons rfl (.cons rfl (.cons rfl (.cons rfl (.cons rfl (.cons rfl (.cons rfl .nil))))))))) ?_
    repeat refine J.seq ?_
    refine J.cond rfl (fun ht30 => ?_) (fun ht30 => ?_)
    ·
      try simp only [decide_eq_true_eq, decide_eq_false_iff_not] at ht30
      repeat refine J.seq ?_
      refine J.plain ?_
      refine JO.t (ob_build (cs := [_, _, _]) sh_api_Value .nil rfl rfl) rfl ?_
      refine JO.t (ob_move rfl) rfl ?_
      refine JO.m (obm_store rfl rfl (by repeat (first | exact .here | apply Upd.there)) (by first | exact cnt_is rfl rfl | exact cnt_ex) (by first | exact cnt_is rfl rfl | exact cnt_ex | exact cnt_aggO) ss_api_Value) (by rfl) ?_
      refine JO.t (ob_assign rfl) rfl ?_
      refine JO.nil ?_
      repeat (first | refine JX.next ?_ | refine JX.normal_block ?_)
      refine J.sel [4, 5] (.cons rfl (.cons rfl .nil)) ?_
      repeat refine J.seq ?_
      refine J.ret ?_
      repeat (first | refine JX.ret_pass ?_ | refine JX.ret_block ?_)
      exact JX.retC1is rfl rfl sz_api_Value HasOwn.mem rfl rfl (by first | (rw [← hgo, lgo_step (by omega) (refAt_get _ _ i (by omega))]; simp +decide only [*, ↓reduceIte] <;> rfl) | (rw [← hgo, show 2 - i = 0 by omega, refLgo]; simp_all [truthF, zero3]; done)) (by first | (rw [← hgo, lgo_step (by omega) (refAt_get _ _ i (by omega))]; simp +decide only [*, ↓reduceIte] <;> rfl) | (rw [← hgo, show 2 - i = 0 by omega, refLgo]; simp_all [truthF, zero3]; done))
    ·
      try simp only [decide_eq_true_eq, decide_eq_false_iff_not] at ht30
      refine J.skip ?_
      repeat (first | refine JX.next ?_ | refine JX.normal_block ?_)
      repeat refine J.seq ?_
      refine J.reg0 hmx (by kernel_rfl) (by kernel_rfl) ?_
      refine RT.t (ob_fieldAddr fo_api_Value_0 rfl) ?_
      refine RT.t (ob_ld1 sz_int rfl rfl) ?_
      refine RT.t (ob_neq rfl rfl) ?_
      refine RT.t (ob_move rfl) ?_
      refine RT.g rfl rfl rfl (fun hg => ob_fieldAddr fo_api_Value_0 (.inl rfl)) ?_
      refine RT.g rfl rfl rfl (fun hg => ob_ld1 sz_int (.inr ⟨_, rfl, fun h => h⟩) rfl) ?_
      refine RT.g rfl rfl rfl (fun hg => ob_neq (.inr ⟨_, rfl, fun h => h⟩) (.inl rfl)) ?_
      refine RT.t (ob_pickAnd rfl rfl rfl id) ?_
      refine RT.nil ?_
      refine FinS.nil0 ?_
      repeat (first | refine JX.next ?_ | refine JX.normal_block ?_)
      refine J.sel [1, 2, 4, 6, 7, 8, 9, 40] (.cons rfl (.cons rfl (.cons rfl (.cons rfl (.cons rfl (.cons rfl (.cons rfl (.cons rfl .nil)))))))) ?_
      repeat refine J.seq ?_
      refine J.cond rfl (fun ht40 => ?_) (fun ht40 => ?_)
      ·
        try simp only [decide_eq_true_eq, decide_eq_false_iff_not] at ht40
        repeat refine J.seq ?_
        refine J.plain ?_
        refine JO.t (ob_build (cs := [_, _, _]) sh_api_Value .nil rfl rfl) rfl ?_
        refine JO.m (obm_store rfl rfl (by repeat (first | exact .here | apply Upd.there)) (by first | exact cnt_is rfl rfl | exact cnt_ex) (by first | exact cnt_is rfl rfl | exact cnt_ex | exact cnt_aggO) ss_api_Value) (by rfl) ?_
        refine JO.t (ob_assign rfl) rfl ?_
        refine JO.nil ?_
        repeat (first | refine JX.next ?_ | refine JX.normal_block ?_)
        refine J.sel [4, 5] (.cons rfl (.cons rfl .nil)) ?_
        repeat refine J.seq ?_
        refine J.ret ?_
        repeat (first | refine JX.ret_pass ?_ | refine JX.ret_block ?_)
        exact JX.retC1is rfl rfl sz_api_Value HasOwn.mem rfl rfl (by first | (rw [← hgo, lgo_step (by omega) (refAt_get _ _ i (by omega))]; simp +decide only [*, ↓reduceIte] <;> rfl) | (rw [← hgo, show 2 - i = 0 by omega, refLgo]; simp_all [truthF, zero3]; done)) (by first | (rw [← hgo, lgo_step (by omega) (refAt_get _ _ i (by omega))]; simp +decide only [*, ↓reduceIte] <;> rfl) | (rw [← hgo, show 2 - i = 0 by omega, refLgo]; simp_all [truthF, zero3]; done))
      ·
        try simp only [decide_eq_true_eq, decide_eq_false_iff_not] at ht40
        refine J.skip ?_
        repeat (first | refine JX.next ?_ | refine JX.normal_block ?_)
        repeat refine J.seq ?_
        refine J.plain ?_
        refine JO.t (ob_ldN (cs := [_, _, _]) sz_api_Value rfl rfl rfl) rfl ?_
        refine JO.t (ob_ldN (cs := [_, _, _]) sz_api_Value rfl rfl rfl) rfl ?_
        refine JO.t (ob_veq veq_api_Value rfl rfl) rfl ?_
        refine JO.nil ?_
        repeat (first | refine JX.next ?_ | refine JX.normal_block ?_)
        refine J.sel [1, 2, 4, 6, 7, 8, 9, 44] (.cons rfl (.cons rfl (.cons rfl (.cons rfl (.cons rfl (.cons rfl (.cons rfl (.cons rfl .nil)))))))) ?_
        repeat refine J.seq ?_
        refine J.cond rfl (fun ht44 => ?_) (fun ht44 => ?_)
        ·
          try simp only [decide_eq_true_eq, decide_eq_false_iff_not] at ht44
          repeat refine J.seq ?_
          refine J.plain ?_
          refine JO.t (ob_ldN (cs := [_, _, _]) sz_api_Value rfl rfl rfl) rfl ?_
          refine JO.m (obm_store rfl rfl (by repeat (first | exact .here | apply Upd.there)) (by first | exact cnt_is rfl rfl | exact cnt_ex) (by first | exact cnt_is rfl rfl | exact cnt_ex | exact cnt_aggO) ss_api_Value) (by rfl) ?_
          refine JO.t (ob_assign rfl) rfl ?_
          refine JO.nil ?_
          repeat (first | refine JX.next ?_ | refine JX.normal_block ?_)
          refine J.sel [4, 5] (.cons rfl (.cons rfl .nil)) ?_
          repeat refine J.seq ?_
          refine J.ret ?_
          repeat (first | refine JX.ret_pass ?_ | refine JX.ret_block ?_)
          exact JX.retC1is rfl rfl sz_api_Value HasOwn.mem rfl rfl (by first | (rw [← hgo, lgo_step (by omega) (refAt_get _ _ i (by omega))]; simp +decide only [*, ↓reduceIte] <;> rfl) | (rw [← hgo, show 2 - i = 0 by omega, refLgo]; simp_all [truthF, zero3]; done)) (by first | (rw [← hgo, lgo_step (by omega) (refAt_get _ _ i (by omega))]; simp +decide only [*, ↓reduceIte] <;> rfl) | (rw [← hgo, show 2 - i = 0 by omega, refLgo]; simp_all [truthF, zero3]; done))
        ·
          try simp only [decide_eq_true_eq, decide_eq_false_iff_not] at ht44
          refine J.skip ?_
          repeat (first | refine JX.next ?_ | refine JX.normal_block ?_)
          repeat refine J.seq ?_
          refine J.reg0 hmx (by kernel_rfl) (by kernel_rfl) ?_
          refine RT.t (ob_move rfl) ?_
          refine RT.t (ob_move rfl) ?_
          refine RT.g rfl rfl rfl (fun hg => ob_fieldAddr fo_api_Value_0 (.inl rfl)) ?_
          refine RT.g rfl rfl rfl (fun hg => ob_ld1 sz_int (.inr ⟨_, rfl, fun h => h⟩) rfl) ?_
          refine RT.g rfl rfl rfl (fun hg => ob_eql (.inr ⟨_, rfl, fun h => h⟩) (.inl rfl)) ?_
          refine RT.t (ob_pickOr rfl rfl rfl id) ?_
          refine RT.t (ob_assign rfl) ?_
          refine RT.nil ?_
          refine FinS.nil0 ?_
          repeat (first | refine JX.next ?_ | refine JX.normal_block ?_)
          refine J.sel [1, 2, 4, 6, 7, 8] (.cons rfl (.cons rfl (.cons rfl (.cons rfl (.cons rfl (.cons rfl .nil)))))) ?_
          repeat refine J.seq ?_
          refine J.plain ?_
          refine JO.t (ob_move rfl) rfl ?_
          refine JO.t (ob_addc (cc := ((i + 1 : Nat) : Int)) rfl rfl (by omega) (by omega) (by omega)) rfl ?_
          refine JO.t (ob_assign rfl) rfl ?_
          refine JO.nil ?_
          refine JX.roundS (i + 1, (nl || ((refF vals (kids.getD i exD)).1.k == 0))) ?_ ?_ [1, 2, 4, 6, 7, 8] ?_ ?_ ?_
          · exact ⟨by omega, by rw [← hgo, lgo_step (by omega) (refAt_get _ _ i (by omega))]; simp +decide only [*, ↓reduceIte]⟩
          · exact (by omega)
          · exact (.cons rfl (.cons rfl (.cons rfl (.cons rfl (.cons rfl (.cons rfl .nil))))))
          · repeat (first | exact .slnil | apply List.Sublist.cons_cons | apply List.Sublist.cons)
          · repeat (first | exact .slnil | apply List.Sublist.cons_cons | apply List.Sublist.cons)
  ·
    try simp only [decide_eq_true_eq, decide_eq_false_iff_not] at ht16
    repeat refine J.seq ?_
    refine J.exit ?_
    repeat (first | refine JX.hit ?_ | refine JX.miss rfl ?_ | refine JX.exit_pass ?_)
    repeat (first | refine JX.next ?_ | refine JX.normal_block ?_)
    repeat refine J.seq ?_
    refine J.plain ?_
    refine JO.t (ob_move rfl) rfl ?_
    refine JO.nil ?_
    repeat (first | refine JX.next ?_ | refine JX.normal_block ?_)
    refine J.sel [2, 4, 52] (.cons rfl (.cons rfl (.cons rfl .nil))) ?_
    repeat refine J.seq ?_
    refine J.cond rfl (fun ht52 => ?_) (fun ht52 => ?_)
    ·
      try simp only [decide_eq_true_eq, decide_eq_false_iff_not] at ht52
      repeat refine J.seq ?_
      refine J.plain ?_
      refine JO.t (ob_build (cs := [_, _, _]) sh_api_Value .nil rfl rfl) rfl ?_
      refine JO.m (obm_store rfl rfl (by repeat (first | exact .here | apply Upd.there)) (by first | exact cnt_is rfl rfl | exact cnt_ex) (by first | exact cnt_is rfl rfl | exact cnt_ex | exact cnt_aggO) ss_api_Value) (by rfl) ?_
      refine JO.t (ob_assign rfl) rfl ?_
      refine JO.nil ?_
      repeat (first | refine JX.next ?_ | refine JX.normal_block ?_)
      refine J.sel [4, 5] (.cons rfl (.cons rfl .nil)) ?_
      repeat refine J.seq ?_
      refine J.ret ?_
      repeat (first | refine JX.ret_pass ?_ | refine JX.ret_block ?_)
      exact JX.retC1is rfl rfl sz_api_Value HasOwn.mem rfl rfl (by first | (rw [← hgo, lgo_step (by omega) (refAt_get _ _ i (by omega))]; simp +decide only [*, ↓reduceIte] <;> rfl) | (rw [← hgo, show 2 - i = 0 by omega, refLgo]; simp_all [truthF, zero3]; done)) (by first | (rw [← hgo, lgo_step (by omega) (refAt_get _ _ i (by omega))]; simp +decide only [*, ↓reduceIte] <;> rfl) | (rw [← hgo, show 2 - i = 0 by omega, refLgo]; simp_all [truthF, zero3]; done))
    ·
      try simp only [decide_eq_true_eq, decide_eq_false_iff_not] at ht52
      refine J.skip ?_
      repeat (first | refine JX.next ?_ | refine JX.normal_block ?_)
      repeat refine J.seq ?_
      refine J.plain ?_
      refine JO.t (ob_fieldAddr fo_api_Expr_0 rfl) rfl ?_
      refine JO.t (ob_ld1 sz_int rfl rfl) rfl ?_
      refine JO.t (ob_eql rfl rfl) rfl ?_
      refine JO.t (ob_call rfl (c_ref12_Truth _) (.one rfl .nil)) rfl ?_
      refine JO.m (obm_store rfl rfl (by repeat (first | exact .here | apply Upd.there)) (by first | exact cnt_is rfl rfl | exact cnt_ex) (by first | exact cnt_is rfl rfl | exact cnt_ex | exact cnt_aggO) ss_api_Value) (by rfl) ?_
      refine JO.t (ob_assign rfl) rfl ?_
      refine JO.nil ?_
      repeat (first | refine JX.next ?_ | refine JX.normal_block ?_)
      refine J.sel [4, 5] (.cons rfl (.cons rfl .nil)) ?_
      repeat refine J.seq ?_
      refine J.ret ?_
      repeat (first | refine JX.ret_pass ?_ | refine JX.ret_block ?_)
      exact JX.retC1is rfl rfl sz_api_Value HasOwn.mem rfl rfl (by first | (rw [← hgo, lgo_step (by omega) (refAt_get _ _ i (by omega))]; simp +decide only [*, ↓reduceIte] <;> rfl) | (rw [← hgo, show 2 - i = 0 by omega, refLgo]; simp_all [truthF, zero3]; done)) (by first | (rw [← hgo, lgo_step (by omega) (refAt_get _ _ i (by omega))]; simp +decide only [*, ↓reduceIte] <;> rfl) | (rw [← hgo, show 2 - i = 0 by omega, refLgo]; simp_all [truthF, zero3]; done))
theorem c_ref12_EvalM (vals : List V3) (k vk vn : Int) (vs tb nm : ByteArray) (sl : Int) (kids : List Ex) (hv : ∀ v ∈ vals, v.rng) (hx : exsRng kids) (hO : ∀ x ∈ kids, RefOK x) : CallTy Try.prog f_ref12_Eval [.rep (ExR (.mk k vk vn vs tb nm sl kids)), .rep (RowS vals)] (.tup2 (.is (vv (refF vals (.mk k vk vn vs tb nm sl kids)).1)) (.is (.int .i64 (refF vals (.mk k vk vn vs tb nm sl kids)).2))) :=
  CallTy.of (fn := Try.f22) Try.func22 (n := 230) rfl rfl rfl (fun _ _ => by kernel_rfl) fun E W => by
  have hF : refF vals (.mk k vk vn vs tb nm sl kids) = refTopF vals k ⟨vk, vn, vs⟩ sl kids.length (refAt vals kids) := by rw [refF]; rfl
  rw [hF]
  refine J.openEx (s := 0) rfl (fun a len cap b o hlen ha => ?_)
  refine J.openRow (s := 1) rfl (fun ra rl rc rb ro hrl hra => ?_)
  subst hrl
  subst hlen
  repeat refine J.seq ?_
  refine J.plain ?_
  refine JO.box rfl rfl fun b2 => ?_
  refine JO.alloc zo_api_Value rfl fun b4 => ?_
  refine JO.t (ob_assign rfl) rfl ?_
  refine JO.nil ?_
  repeat (first | refine JX.next ?_ | refine JX.normal_block ?_)
  refine J.sel [1, 2, 4] (.cons rfl (.cons rfl (.cons rfl .nil))) ?_
  repeat refine J.seq ?_
  refine J.plain ?_
  refine JO.t (ob_fieldAddr fo_api_Expr_5 rfl) rfl ?_
  refine JO.t (ob_ld1 sz_sl_api_Expr rfl rfl) rfl ?_
  refine JO.t (ob_len un_sl_api_Expr rfl) rfl ?_
  refine JO.t (ob_assign rfl) rfl ?_
  refine JO.nil ?_
  repeat (first | refine JX.next ?_ | refine JX.normal_block ?_)
  refine J.sel [1, 2, 4, 6] (.cons rfl (.cons rfl (.cons rfl (.cons rfl .nil)))) ?_
  repeat refine J.seq ?_
  refine J.block ?_
  repeat refine J.seq ?_
  refine J.reg0 hmx (by kernel_rfl) (by kernel_rfl) ?_
  refine RT.t (ob_fieldAddr fo_api_Expr_0 rfl) ?_
  refine RT.t (ob_ld1 sz_int rfl rfl) ?_
  refine RT.t (ob_eql rfl rfl) ?_
  refine RT.t (ob_move rfl) ?_
  refine RT.g rfl rfl rfl (fun hg => ob_move (.inl rfl)) ?_
  refine RT.g rfl rfl rfl (fun hg => ob_eql (.inr ⟨_, rfl, fun h => h⟩) (.inl rfl)) ?_
  refine RT.t (ob_pickAnd rfl rfl rfl id) ?_
  refine RT.t (ob_move rfl) ?_
  refine RT.g rfl rfl rfl (fun hg => ob_fieldAddr fo_api_Expr_1 (.inl rfl)) ?_
  refine RT.g rfl rfl rfl (fun hg => ob_ldN (cs := [_, _, _]) sz_api_Value (.inr ⟨_, rfl, fun h => h⟩) rfl rfl) ?_
  refine RT.g rfl rfl rfl (fun hg => ob_call (.inl rfl) (c_ref01_Ok _ _ _) (.one (.inr ⟨_, rfl, fun h => h⟩) .nil)) ?_
  refine RT.t (ob_pickAnd rfl rfl rfl id) ?_
  refine RT.t (ob_assign rfl) ?_
  refine RT.nil ?_
  refine FinS.nil0 ?_
  repeat (first | refine JX.next ?_ | refine JX.normal_block ?_)
  refine J.sel [1, 2, 4, 6, 16] (.cons rfl (.cons rfl (.cons rfl (.cons rfl (.cons rfl .nil))))) ?_
  repeat refine J.seq ?_
  refine J.cond rfl (fun ht16 => ?_) (fun ht16 => ?_)
  ·
    try simp only [decide_eq_true_eq, decide_eq_false_iff_not] at ht16
    repeat refine J.seq ?_
    refine J.plain ?_
    refine JO.t (ob_fieldAddr fo_api_Expr_1 rfl) rfl ?_
    refine JO.t (ob_ldN (cs := [_, _, _]) sz_api_Value rfl rfl rfl) rfl ?_
    refine JO.m (obm_store rfl rfl (by repeat (first | exact .here | apply Upd.there)) (by first | exact cnt_is rfl rfl | exact cnt_ex) (by first | exact cnt_is rfl rfl | exact cnt_ex | exact cnt_aggO) ss_api_Value) (by rfl) ?_
    refine JO.t (ob_assign rfl) rfl ?_
    refine JO.nil ?_
    repeat (first | refine JX.next ?_ | refine JX.normal_block ?_)
    refine J.sel [4, 5] (.cons rfl (.cons rfl .nil)) ?_
    repeat refine J.seq ?_
    refine J.ret ?_
    repeat (first | refine JX.ret_pass ?_ | refine JX.ret_block ?_)
    exact JX.retC1is rfl rfl sz_api_Value HasOwn.mem rfl rfl (by first | (simp +decide only [refTopF, *, ↓reduceIte] <;> rfl) | (rw [refTopF]; simp +decide only [*, ↓reduceIte]; rw [refTwoF, refAt_get _ _ 0 (by simp at ht119; omega)]; simp +decide only [*, ↓reduceIte] <;> rfl) | (rw [refTopF]; simp +decide only [*, ↓reduceIte]; rw [refTwoF, refAt_get _ _ 0 (by simp at ht119; omega), refAt_get _ _ 1 (by simp at ht119; omega)]; simp +decide only [*, ↓reduceIte] <;> rfl)) (by first | (simp +decide only [refTopF, *, ↓reduceIte] <;> rfl) | (rw [refTopF]; simp +decide only [*, ↓reduceIte]; rw [refTwoF, refAt_get _ _ 0 (by simp at ht119; omega)]; simp +decide only [*, ↓reduceIte] <;> rfl) | (rw [refTopF]; simp +decide only [*, ↓reduceIte]; rw [refTwoF, refAt_get _ _ 0 (by simp at ht119; omega), refAt_get _ _ 1 (by simp at ht119; omega)]; simp +decide only [*, ↓reduceIte] <;> rfl))
  ·
    try simp only [decide_eq_true_eq, decide_eq_false_iff_not] at ht16
    repeat refine J.seq ?_
    refine J.reg0 hmx (by kernel_rfl) (by kernel_rfl) ?_
    refine RT.t (ob_fieldAddr fo_api_Expr_0 rfl) ?_
    refine RT.t (ob_ld1 sz_int rfl rfl) ?_
    refine RT.t (ob_eql rfl rfl) ?_
    refine RT.t (ob_move rfl) ?_
    refine RT.g rfl rfl rfl (fun hg => ob_move (.inl rfl)) ?_
    refine RT.g rfl rfl rfl (fun hg => ob_eql (.inr ⟨_, rfl, fun h => h⟩) (.inl rfl)) ?_
    refine RT.t (ob_pickAnd rfl rfl rfl id) ?_
    refine RT.t (ob_assign rfl) ?_
    refine RT.nil ?_
    refine FinS.nil0 ?_
    repeat (first | refine JX.next ?_ | refine JX.normal_block ?_)
    refine J.sel [1, 2, 4, 6, 31] (.cons rfl (.cons rfl (.cons rfl (.cons rfl (.cons rfl .nil))))) ?_
    repeat refine J.seq ?_
    refine J.cond rfl (fun ht31 => ?_) (fun ht31 => ?_)
    ·
      try simp only [decide_eq_true_eq, decide_eq_false_iff_not] at ht31
      repeat refine J.seq ?_
      refine J.plain ?_
      refine JO.t (ob_build (cs := [_, _, _]) sh_api_Value .nil rfl rfl) rfl ?_
      refine JO.m (obm_store rfl rfl (by repeat (first | exact .here | apply Upd.there)) (by first | exact cnt_is rfl rfl | exact cnt_ex) (by first | exact cnt_is rfl rfl | exact cnt_ex | exact cnt_aggO) ss_api_Value) (by rfl) ?_
      refine JO.t (ob_assign rfl) rfl ?_
      refine JO.nil ?_
      repeat (first | refine JX.next ?_ | refine JX.normal_block ?_)
      refine J.sel [4, 5] (.cons rfl (.cons rfl .nil)) ?_
      repeat refine J.seq ?_
      refine J.ret ?_
      repeat (first | refine JX.ret_pass ?_ | refine JX.ret_block ?_)
      exact JX.retC1is rfl rfl sz_api_Value HasOwn.mem rfl rfl (by first | (simp +decide only [refTopF, *, ↓reduceIte] <;> rfl) | (rw [refTopF]; simp +decide only [*, ↓reduceIte]; rw [refTwoF, refAt_get _ _ 0 (by simp at ht119; omega)]; simp +decide only [*, ↓reduceIte] <;> rfl) | (rw [refTopF]; simp +decide only [*, ↓reduceIte]; rw [refTwoF, refAt_get _ _ 0 (by simp at ht119; omega), refAt_get _ _ 1 (by simp at ht119; omega)]; simp +decide only [*, ↓reduceIte] <;> rfl)) (by first | (simp +decide only [refTopF, *, ↓reduceIte] <;> rfl) | (rw [refTopF]; simp +decide only [*, ↓reduceIte]; rw [refTwoF, refAt_get _ _ 0 (by simp at ht119; omega)]; simp +decide only [*, ↓reduceIte] <;> rfl) | (rw [refTopF]; simp +decide only [*, ↓reduceIte]; rw [refTwoF, refAt_get _ _ 0 (by simp at ht119; omega), refAt_get _ _ 1 (by simp at ht119; omega)]; simp +decide only [*, ↓reduceIte] <;> rfl))
    ·
      try simp only [decide_eq_true_eq, decide_eq_false_iff_not] at ht31
      repeat refine J.seq ?_
      refine J.reg0 hmx (by kernel_rfl) (by kernel_rfl) ?_
      refine RT.t (ob_fieldAddr fo_api_Expr_0 rfl) ?_
      refine RT.t (ob_ld1 sz_int rfl rfl) ?_
      refine RT.t (ob_eql rfl rfl) ?_
      refine RT.t (ob_move rfl) ?_
      refine RT.g rfl rfl rfl (fun hg => ob_move (.inl rfl)) ?_
      refine RT.g rfl rfl rfl (fun hg => ob_eql (.inr ⟨_, rfl, fun h => h⟩) (.inl rfl)) ?_
      refine RT.t (ob_pickAnd rfl rfl rfl id) ?_
      refine RT.t (ob_move rfl) ?_
      refine RT.g rfl rfl rfl (fun hg => ob_fieldAddr fo_api_Expr_4 (.inl rfl)) ?_
      refine RT.g rfl rfl rfl (fun hg => ob_ld1 sz_int (.inr ⟨_, rfl, fun h => h⟩) rfl) ?_
      refine RT.g rfl rfl rfl (fun hg => ob_geq (.inr ⟨_, rfl, fun h => h⟩) (.inl rfl)) ?_
      refine RT.t (ob_pickAnd rfl rfl rfl id) ?_
      refine RT.t (ob_move rfl) ?_
      refine RT.g rfl rfl rfl (fun hg => ob_fieldAddr fo_api_Expr_4 (.inl rfl)) ?_
      refine RT.g rfl rfl rfl (fun hg => ob_ld1 sz_int (.inr ⟨_, rfl, fun h => h⟩) rfl) ?_
      refine RT.g rfl rfl rfl (fun hg => ob_move (.inl rfl)) ?_
      refine RT.g rfl rfl rfl (fun hg => ob_len un_sl_api_Value (.inr ⟨_, rfl, fun h => h⟩)) ?_
      refine RT.g rfl rfl rfl (fun hg => ob_lss (.inr ⟨_, rfl, fun h => h⟩) (.inr ⟨_, rfl, fun h => h⟩)) ?_
      refine RT.t (ob_pickAnd rfl rfl rfl id) ?_
      refine RT.t (ob_move rfl) ?_
      refine RT.g rfl rfl rfl (fun hg => ob_move (.inl rfl)) ?_
      refine RT.g rfl rfl rfl (fun hg => ob_fieldAddr fo_api_Expr_4 (.inl rfl)) ?_
      refine RT.g rfl rfl rfl (fun hg => ob_ld1 sz_int (.inr ⟨_, rfl, fun h => h⟩) rfl) ?_
      refine RT.g rfl rfl rfl (fun hg => ob_indexAddr el_sl_api_Value (.inr ⟨_, rfl, fun h => h⟩) (hra (by simp at hg; omega)) (.inr ⟨_, rfl, fun h => h⟩) (by simp at hg; omega) (by simp at hg; omega)) ?_
      refine RT.g rfl rfl rfl (fun hg => ob_loadVal (i := sl.toNat) (v := v3at vals sl) sz_api_Value (.inr ⟨_, rfl, fun h => h⟩) List.mem_cons_self (hra (by simp at hg; omega)) (v3at_get (by simp at hg; omega) (by simp at hg; omega)) (by omega)) ?_
      refine RT.g rfl rfl rfl (fun hg => ob_call (.inl rfl) (c_ref01_Ok _ _ _) (.one (.inr ⟨_, rfl, fun h => h⟩) .nil)) ?_
      refine RT.t (ob_pickAnd rfl rfl rfl id) ?_
      refine RT.t (ob_assign rfl) ?_
      refine RT.nil ?_
      refine FinS.nil0 ?_
      repeat (first | refine JX.next ?_ | refine JX.normal_block ?_)
      refine J.sel [1, 2, 4, 6, 40] (.cons rfl (.cons rfl (.cons rfl (.cons rfl (.cons rfl .nil))))) ?_
      repeat refine J.seq ?_
      refine J.cond rfl (fun ht40 => ?_) (fun ht40 => ?_)
      ·
        try simp only [decide_eq_true_eq, decide_eq_false_iff_not] at ht40
        repeat refine J.seq ?_
        refine J.plain ?_
        refine JO.t (ob_move rfl) rfl ?_
        refine JO.t (ob_fieldAddr fo_api_Expr_4 rfl) rfl ?_
        refine JO.t (ob_ld1 sz_int rfl rfl) rfl ?_
        refine JO.t (ob_indexAddr el_sl_api_Value rfl (hra (by simp at ht40; omega)) rfl (by simp at ht40; omega) (by simp at ht40; omega)) rfl ?_
        refine JO.t (ob_loadVal (i := sl.toNat) (v := v3at vals sl) sz_api_Value rfl List.mem_cons_self (hra (by simp at ht40; omega)) (v3at_get (by simp at ht40; omega) (by simp at ht40; omega)) (by omega)) rfl ?_
        refine JO.m (obm_store rfl rfl (by repeat (first | exact .here | apply Upd.there)) (by first | exact cnt_is rfl rfl | exact cnt_ex) (by first | exact cnt_is rfl rfl | exact cnt_ex | exact cnt_aggO) ss_api_Value) (by rfl) ?_
        refine JO.t (ob_assign rfl) rfl ?_
        refine JO.nil ?_
        repeat (first | refine JX.next ?_ | refine JX.normal_block ?_)
        refine J.sel [4, 5] (.cons rfl (.cons rfl .nil)) ?_
        repeat refine J.seq ?_
        refine J.ret ?_
        repeat (first | refine JX.ret_pass ?_ | refine JX.ret_block ?_)
        exact JX.retC1is rfl rfl sz_api_Value HasOwn.mem rfl rfl (by first | (simp +decide only [refTopF, *, ↓reduceIte] <;> rfl) | (rw [refTopF]; simp +decide only [*, ↓reduceIte]; rw [refTwoF, refAt_get _ _ 0 (by simp at ht119; omega)]; simp +decide only [*, ↓reduceIte] <;> rfl) | (rw [refTopF]; simp +decide only [*, ↓reduceIte]; rw [refTwoF, refAt_get _ _ 0 (by simp at ht119; omega), refAt_get _ _ 1 (by simp at ht119; omega)]; simp +decide only [*, ↓reduceIte] <;> rfl)) (by first | (simp +decide only [refTopF, *, ↓reduceIte] <;> rfl) | (rw [refTopF]; simp +decide only [*, ↓reduceIte]; rw [refTwoF, refAt_get _ _ 0 (by simp at ht119; omega)]; simp +decide only [*, ↓reduceIte] <;> rfl) | (rw [refTopF]; simp +decide only [*, ↓reduceIte]; rw [refTwoF, refAt_get _ _ 0 (by simp at ht119; omega), refAt_get _ _ 1 (by simp at ht119; omega)]; simp +decide only [*, ↓reduceIte] <;> rfl))
      ·
        try simp only [decide_eq_true_eq, decide_eq_false_iff_not] at ht40
        repeat refine J.seq ?_
        refine J.reg0 hmx (by kernel_rfl) (by kernel_rfl) ?_
        refine RT.t (ob_move rfl) ?_
        refine RT.t (ob_eql rfl rfl) ?_
        refine RT.t (ob_move rfl) ?_
        refine RT.g rfl rfl rfl (fun hg => ob_fieldAddr fo_api_Expr_0 (.inl rfl)) ?_
        refine RT.g rfl rfl rfl (fun hg => ob_ld1 sz_int (.inr ⟨_, rfl, fun h => h⟩) rfl) ?_
        refine RT.g rfl rfl rfl (fun hg => ob_eql (.inr ⟨_, rfl, fun h => h⟩) (.inl rfl)) ?_
        refine RT.g rfl rfl rfl (fun hg => ob_move (.inr ⟨_, rfl, fun h => h⟩)) ?_
        refine RT.gg rfl rfl rfl (fun hg => (ob_fieldAddr fo_api_Expr_0 (.inl rfl))) ?_
        refine RT.gg rfl rfl rfl (fun hg => (ob_ld1 sz_int (.inr ⟨_, rfl, fun h => h⟩) rfl)) ?_
        refine RT.gg rfl rfl rfl (fun hg => (ob_eql (.inr ⟨_, rfl, fun h => h⟩) (.inl rfl))) ?_
        refine RT.g rfl rfl rfl (fun hg => ob_pickOr (.inr ⟨_, rfl, fun h => h⟩) (.inl rfl) (.inl rfl) (fun h => ⟨hg, h⟩)) ?_
        refine RT.g rfl rfl rfl (fun hg => ob_move (.inr ⟨_, rfl, fun h => h⟩)) ?_
        refine RT.gg rfl rfl rfl (fun hg => (ob_fieldAddr fo_api_Expr_0 (.inl rfl))) ?_
        refine RT.gg rfl rfl rfl (fun hg => (ob_ld1 sz_int (.inr ⟨_, rfl, fun h => h⟩) rfl)) ?_
        refine RT.gg rfl rfl rfl (fun hg => (ob_eql (.inr ⟨_, rfl, fun h => h⟩) (.inl rfl))) ?_
        refine RT.g rfl rfl rfl (fun hg => ob_pickOr (.inr ⟨_, rfl, fun h => h⟩) (.inl rfl) (.inl rfl) (fun h => ⟨hg, h⟩)) ?_
        refine RT.g rfl rfl rfl (fun hg => ob_move (.inr ⟨_, rfl, fun h => h⟩)) ?_
        refine RT.gg rfl rfl rfl (fun hg => (ob_fieldAddr fo_api_Expr_0 (.inl rfl))) ?_
        refine RT.gg rfl rfl rfl (fun hg => (ob_ld1 sz_int (.inr ⟨_, rfl, fun h => h⟩) rfl)) ?_
        refine RT.gg rfl rfl rfl (fun hg => (ob_eql (.inr ⟨_, rfl, fun h => h⟩) (.inl rfl))) ?_
        refine RT.g rfl rfl rfl (fun hg => ob_pickOr (.inr ⟨_, rfl, fun h => h⟩) (.inl rfl) (.inl rfl) (fun h => ⟨hg, h⟩)) ?_
        refine RT.t (ob_pickAnd rfl rfl rfl id) ?_
        refine RT.t (ob_assign rfl) ?_
        refine RT.nil ?_
        refine FinS.nil0 ?_
        repeat (first | refine JX.next ?_ | refine JX.normal_block ?_)
        refine J.sel [1, 2, 4, 6, 73] (.cons rfl (.cons rfl (.cons rfl (.cons rfl (.cons rfl .nil))))) ?_
        repeat refine J.seq ?_
        refine J.cond rfl (fun ht73 => ?_) (fun ht73 => ?_)
        ·
          try simp only [decide_eq_true_eq, decide_eq_false_iff_not] at ht73
          repeat refine J.seq ?_
          refine J.plain ?_
          refine JO.t (ob_ldN (cs := [_, _, _, _, _, _, _, _]) sz_api_Expr rfl rfl rfl) rfl ?_
          refine JO.t (ob_move rfl) rfl ?_
          refine JO.t (ob_call rfl (c_ref12_one vals k vk vn vs tb nm sl kids hv hx hO (by simp at ht73; omega)) (.sub rfl (Sub.fact (by simp [exCells])) (.sub rfl (Sub.fact (by simp)) .nil))) rfl ?_
          refine JO.t (ob_extract0 rfl) rfl ?_
          refine JO.t (ob_extract1 rfl) rfl ?_
          refine JO.m (obm_store rfl rfl (by repeat (first | exact .here | apply Upd.there)) (by first | exact cnt_is rfl rfl | exact cnt_ex) (by first | exact cnt_is rfl rfl | exact cnt_ex | exact cnt_aggO) ss_api_Value) (by rfl) ?_
          refine JO.t (ob_assign rfl) rfl ?_
          refine JO.nil ?_
          repeat (first | refine JX.next ?_ | refine JX.normal_block ?_)
          refine J.sel [4, 5] (.cons rfl (.cons rfl .nil)) ?_
          repeat refine J.seq ?_
          refine J.ret ?_
          repeat (first | refine JX.ret_pass ?_ | refine JX.ret_block ?_)
          exact JX.retC1is rfl rfl sz_api_Value HasOwn.mem rfl rfl (by first | (simp +decide only [refTopF, *, ↓reduceIte] <;> rfl) | (rw [refTopF]; simp +decide only [*, ↓reduceIte]; rw [refTwoF, refAt_get _ _ 0 (by simp at ht119; omega)]; simp +decide only [*, ↓reduceIte] <;> rfl) | (rw [refTopF]; simp +decide only [*, ↓reduceIte]; rw [refTwoF, refAt_get _ _ 0 (by simp at ht119; omega), refAt_get _ _ 1 (by simp at ht119; omega)]; simp +decide only [*, ↓reduceIte] <;> rfl)) (by first | (simp +decide only [refTopF, *, ↓reduceIte] <;> rfl) | (rw [refTopF]; simp +decide only [*, ↓reduceIte]; rw [refTwoF, refAt_get _ _ 0 (by simp at ht119; omega)]; simp +decide only [*, ↓reduceIte] <;> rfl) | (rw [refTopF]; simp +decide only [*, ↓reduceIte]; rw [refTwoF, refAt_get _ _ 0 (by simp at ht119; omega), refAt_get _ _ 1 (by simp at ht119; omega)]; simp +decide only [*, ↓reduceIte] <;> rfl))
        ·
          try simp only [decide_eq_true_eq, decide_eq_false_iff_not] at ht73
          repeat refine J.seq ?_
          refine J.reg0 hmx (by kernel_rfl) (by kernel_rfl) ?_
          refine RT.t (ob_move rfl) ?_
          refine RT.t (ob_eql rfl rfl) ?_
          refine RT.t (ob_move rfl) ?_
          refine RT.g rfl rfl rfl (fun hg => ob_fieldAddr fo_api_Expr_0 (.inl rfl)) ?_
          refine RT.g rfl rfl rfl (fun hg => ob_ld1 sz_int (.inr ⟨_, rfl, fun h => h⟩) rfl) ?_
          refine RT.g rfl rfl rfl (fun hg => ob_eql (.inr ⟨_, rfl, fun h => h⟩) (.inl rfl)) ?_
          refine RT.g rfl rfl rfl (fun hg => ob_move (.inr ⟨_, rfl, fun h => h⟩)) ?_
          refine RT.gg rfl rfl rfl (fun hg => (ob_fieldAddr fo_api_Expr_0 (.inl rfl))) ?_
          refine RT.gg rfl rfl rfl (fun hg => (ob_ld1 sz_int (.inr ⟨_, rfl, fun h => h⟩) rfl)) ?_
          refine RT.gg rfl rfl rfl (fun hg => (ob_eql (.inr ⟨_, rfl, fun h => h⟩) (.inl rfl))) ?_
          refine RT.g rfl rfl rfl (fun hg => ob_pickOr (.inr ⟨_, rfl, fun h => h⟩) (.inl rfl) (.inl rfl) (fun h => ⟨hg, h⟩)) ?_
          refine RT.t (ob_pickAnd rfl rfl rfl id) ?_
          refine RT.t (ob_assign rfl) ?_
          refine RT.nil ?_
          refine FinS.nil0 ?_
          repeat (first | refine JX.next ?_ | refine JX.normal_block ?_)
          refine J.sel [1, 2, 4, 6, 101] (.cons rfl (.cons rfl (.cons rfl (.cons rfl (.cons rfl .nil))))) ?_
          repeat refine J.seq ?_
          refine J.cond rfl (fun ht101 => ?_) (fun ht101 => ?_)
          ·
            try simp only [decide_eq_true_eq, decide_eq_false_iff_not] at ht101
            repeat refine J.seq ?_
            refine J.plain ?_
            refine JO.t (ob_ldN (cs := [_, _, _, _, _, _, _, _]) sz_api_Expr rfl rfl rfl) rfl ?_
            refine JO.t (ob_move rfl) rfl ?_
            refine JO.t (ob_call rfl (c_ref12_logic vals k vk vn vs tb nm sl kids hv hx hO (by simp at ht101; omega)) (.sub rfl (Sub.fact (by simp [exCells])) (.sub rfl (Sub.fact (by simp)) .nil))) rfl ?_
            refine JO.t (ob_extract0 rfl) rfl ?_
            refine JO.t (ob_extract1 rfl) rfl ?_
            refine JO.m (obm_store rfl rfl (by repeat (first | exact .here | apply Upd.there)) (by first | exact cnt_is rfl rfl | exact cnt_ex) (by first | exact cnt_is rfl rfl | exact cnt_ex | exact cnt_aggO) ss_api_Value) (by rfl) ?_
            refine JO.t (ob_assign rfl) rfl ?_
            refine JO.nil ?_
            repeat (first | refine JX.next ?_ | refine JX.normal_block ?_)
            refine J.sel [4, 5] (.cons rfl (.cons rfl .nil)) ?_
            repeat refine J.seq ?_
            refine J.ret ?_
            repeat (first | refine JX.ret_pass ?_ | refine JX.ret_block ?_)
            exact JX.retC1is rfl rfl sz_api_Value HasOwn.mem rfl rfl (by first | (simp +decide only [refTopF, *, ↓reduceIte] <;> rfl) | (rw [refTopF]; simp +decide only [*, ↓reduceIte]; rw [refTwoF, refAt_get _ _ 0 (by simp at ht119; omega)]; simp +decide only [*, ↓reduceIte] <;> rfl) | (rw [refTopF]; simp +decide only [*, ↓reduceIte]; rw [refTwoF, refAt_get _ _ 0 (by simp at ht119; omega), refAt_get _ _ 1 (by simp at ht119; omega)]; simp +decide only [*, ↓reduceIte] <;> rfl)) (by first | (simp +decide only [refTopF, *, ↓reduceIte] <;> rfl) | (rw [refTopF]; simp +decide only [*, ↓reduceIte]; rw [refTwoF, refAt_get _ _ 0 (by simp at ht119; omega)]; simp +decide only [*, ↓reduceIte] <;> rfl) | (rw [refTopF]; simp +decide only [*, ↓reduceIte]; rw [refTwoF, refAt_get _ _ 0 (by simp at ht119; omega), refAt_get _ _ 1 (by simp at ht119; omega)]; simp +decide only [*, ↓reduceIte] <;> rfl))
          ·
            try simp only [decide_eq_true_eq, decide_eq_false_iff_not] at ht101
            repeat refine J.seq ?_
            refine J.reg0 hmx (by kernel_rfl) (by kernel_rfl) ?_
            refine RT.t (ob_move rfl) ?_
            refine RT.t (ob_neq rfl rfl) ?_
            refine RT.t (ob_move rfl) ?_
            refine RT.g rfl rfl rfl (fun hg => ob_fieldAddr fo_api_Expr_0 (.inl rfl)) ?_
            refine RT.g rfl rfl rfl (fun hg => ob_ld1 sz_int (.inr ⟨_, rfl, fun h => h⟩) rfl) ?_
            refine RT.g rfl rfl rfl (fun hg => ob_lss (.inr ⟨_, rfl, fun h => h⟩) (.inl rfl)) ?_
            refine RT.t (ob_pickOr rfl rfl rfl id) ?_
            refine RT.t (ob_move rfl) ?_
            refine RT.g rfl rfl rfl (fun hg => ob_fieldAddr fo_api_Expr_0 (.inl rfl)) ?_
            refine RT.g rfl rfl rfl (fun hg => ob_ld1 sz_int (.inr ⟨_, rfl, fun h => h⟩) rfl) ?_
            refine RT.g rfl rfl rfl (fun hg => ob_gtr (.inr ⟨_, rfl, fun h => h⟩) (.inl rfl)) ?_
            refine RT.t (ob_pickOr rfl rfl rfl id) ?_
            refine RT.t (ob_assign rfl) ?_
            refine RT.nil ?_
            refine FinS.nil0 ?_
            repeat (first | refine JX.next ?_ | refine JX.normal_block ?_)
            refine J.sel [1, 2, 4, 119] (.cons rfl (.cons rfl (.cons rfl (.cons rfl .nil)))) ?_
            repeat refine J.seq ?_
            refine J.cond rfl (fun ht119 => ?_) (fun ht119 => ?_)
            ·
              try simp only [decide_eq_true_eq, decide_eq_false_iff_not] at ht119
              repeat refine J.seq ?_
              refine J.plain ?_
              refine JO.t (ob_build (cs := [_, _, _]) sh_api_Value .nil rfl rfl) rfl ?_
              refine JO.m (obm_store rfl rfl (by repeat (first | exact .here | apply Upd.there)) (by first | exact cnt_is rfl rfl | exact cnt_ex) (by first | exact cnt_is rfl rfl | exact cnt_ex | exact cnt_aggO) ss_api_Value) (by rfl) ?_
              refine JO.t (ob_assign rfl) rfl ?_
              refine JO.nil ?_
              repeat (first | refine JX.next ?_ | refine JX.normal_block ?_)
              refine J.sel [4, 5] (.cons rfl (.cons rfl .nil)) ?_
              repeat refine J.seq ?_
              refine J.ret ?_
              repeat (first | refine JX.ret_pass ?_ | refine JX.ret_block ?_)
              exact JX.retC1is rfl rfl sz_api_Value HasOwn.mem rfl rfl (by first | (simp +decide only [refTopF, *, ↓reduceIte] <;> rfl) | (rw [refTopF]; simp +decide only [*, ↓reduceIte]; rw [refTwoF, refAt_get _ _ 0 (by simp at ht119; omega)]; simp +decide only [*, ↓reduceIte] <;> rfl) | (rw [refTopF]; simp +decide only [*, ↓reduceIte]; rw [refTwoF, refAt_get _ _ 0 (by simp at ht119; omega), refAt_get _ _ 1 (by simp at ht119; omega)]; simp +decide only [*, ↓reduceIte] <;> rfl)) (by first | (simp +decide only [refTopF, *, ↓reduceIte] <;> rfl) | (rw [refTopF]; simp +decide only [*, ↓reduceIte]; rw [refTwoF, refAt_get _ _ 0 (by simp at ht119; omega)]; simp +decide only [*, ↓reduceIte] <;> rfl) | (rw [refTopF]; simp +decide only [*, ↓reduceIte]; rw [refTwoF, refAt_get _ _ 0 (by simp at ht119; omega), refAt_get _ _ 1 (by simp at ht119; omega)]; simp +decide only [*, ↓reduceIte] <;> rfl))
            ·
              try simp only [decide_eq_true_eq, decide_eq_false_iff_not] at ht119
              refine J.skip ?_
              repeat (first | refine JX.next ?_ | refine JX.normal_block ?_)
              repeat refine J.seq ?_
              refine J.plain ?_
              refine JO.t (ob_fieldAddr fo_api_Expr_5 rfl) rfl ?_
              refine JO.t (ob_ld1 sz_sl_api_Expr rfl rfl) rfl ?_
              refine JO.t (ob_indexAddr el_sl_api_Expr rfl (ha (by simp at ht119; omega)) rfl (by simp at ht119; omega) (by simp at ht119; omega)) rfl ?_
              refine JO.t (ob_loadKid (i := 0) sz_api_Expr rfl (List.mem_cons_of_mem _ (List.mem_cons_of_mem _ List.mem_cons_self)) (ha (by simp at ht119; omega)) (kid_get (by simp at ht119; omega)) (by omega)) rfl ?_
              refine JO.t (ob_move rfl) rfl ?_
              refine JO.t (ob_call rfl (hO (kids.getD 0 exD) (kid_mem (by simp at ht119; omega)) vals hv) (.one rfl (.sub rfl (Sub.fact (by simp)) .nil))) rfl ?_
              refine JO.t (ob_move rfl) rfl ?_
              refine JO.t (ob_extract0 rfl) rfl ?_
              refine JO.t (ob_extract1 rfl) rfl ?_
              refine JO.alloc zo_api_Value rfl fun b7 => ?_
              refine JO.m (obm_store rfl rfl (by repeat (first | exact .here | apply Upd.there)) (by first | exact cnt_is rfl rfl | exact cnt_ex) (by first | exact cnt_is rfl rfl | exact cnt_ex | exact cnt_aggO) ss_api_Value) (by rfl) ?_
              refine JO.t (ob_assign rfl) rfl ?_
              refine JO.nil ?_
              repeat (first | refine JX.next ?_ | refine JX.normal_block ?_)
              refine J.sel [1, 2, 4, 7, 8] (.cons rfl (.cons rfl (.cons rfl (.cons rfl (.cons rfl .nil))))) ?_
              repeat refine J.seq ?_
              refine J.plain ?_
              refine JO.t (ob_move rfl) rfl ?_
              refine JO.t (ob_neq rfl rfl) rfl ?_
              refine JO.nil ?_
              repeat (first | refine JX.next ?_ | refine JX.normal_block ?_)
              refine J.sel [1, 2, 4, 7, 8, 143] (.cons rfl (.cons rfl (.cons rfl (.cons rfl (.cons rfl (.cons rfl .nil)))))) ?_
              repeat refine J.seq ?_
              refine J.cond rfl (fun ht143 => ?_) (fun ht143 => ?_)
              ·
                try simp only [decide_eq_true_eq, decide_eq_false_iff_not] at ht143
                repeat refine J.seq ?_
                refine J.plain ?_
                refine JO.t (ob_build (cs := [_, _, _]) sh_api_Value .nil rfl rfl) rfl ?_
                refine JO.t (ob_move rfl) rfl ?_
                refine JO.m (obm_store rfl rfl (by repeat (first | exact .here | apply Upd.there)) (by first | exact cnt_is rfl rfl | exact cnt_ex) (by first | exact cnt_is rfl rfl | exact cnt_ex | exact cnt_aggO) ss_api_Value) (by rfl) ?_
                refine JO.t (ob_assign rfl) rfl ?_
                refine JO.nil ?_
                repeat (first | refine JX.next ?_ | refine JX.normal_block ?_)
                refine J.sel [4, 5] (.cons rfl (.cons rfl .nil)) ?_
                repeat refine J.seq ?_
                refine J.ret ?_
                repeat (first | refine JX.ret_pass ?_ | refine JX.ret_block ?_)
                exact JX.retC1is rfl rfl sz_api_Value HasOwn.mem rfl rfl (by first | (simp +decide only [refTopF, *, ↓reduceIte] <;> rfl) | (rw [refTopF]; simp +decide only [*, ↓reduceIte]; rw [refTwoF, refAt_get _ _ 0 (by simp at ht119; omega)]; simp +decide only [*, ↓reduceIte] <;> rfl) | (rw [refTopF]; simp +decide only [*, ↓reduceIte]; rw [refTwoF, refAt_get _ _ 0 (by simp at ht119; omega), refAt_get _ _ 1 (by simp at ht119; omega)]; simp +decide only [*, ↓reduceIte] <;> rfl)) (by first | (simp +decide only [refTopF, *, ↓reduceIte] <;> rfl) | (rw [refTopF]; simp +decide only [*, ↓reduceIte]; rw [refTwoF, refAt_get _ _ 0 (by simp at ht119; omega)]; simp +decide only [*, ↓reduceIte] <;> rfl) | (rw [refTopF]; simp +decide only [*, ↓reduceIte]; rw [refTwoF, refAt_get _ _ 0 (by simp at ht119; omega), refAt_get _ _ 1 (by simp at ht119; omega)]; simp +decide only [*, ↓reduceIte] <;> rfl))
              ·
                try simp only [decide_eq_true_eq, decide_eq_false_iff_not] at ht143
                refine J.skip ?_
                repeat (first | refine JX.next ?_ | refine JX.normal_block ?_)
                repeat refine J.seq ?_
                refine J.plain ?_
                refine JO.t (ob_fieldAddr fo_api_Expr_5 rfl) rfl ?_
                refine JO.t (ob_ld1 sz_sl_api_Expr rfl rfl) rfl ?_
                refine JO.t (ob_indexAddr el_sl_api_Expr rfl (ha (by simp at ht119; omega)) rfl (by simp at ht119; omega) (by simp at ht119; omega)) rfl ?_
                refine JO.t (ob_loadKid (i := 1) sz_api_Expr rfl (List.mem_cons_of_mem _ (List.mem_cons_of_mem _ List.mem_cons_self)) (ha (by simp at ht119; omega)) (kid_get (by simp at ht119; omega)) (by omega)) rfl ?_
                refine JO.t (ob_move rfl) rfl ?_
                refine JO.t (ob_call rfl (hO (kids.getD 1 exD) (kid_mem (by simp at ht119; omega)) vals hv) (.one rfl (.sub rfl (Sub.fact (by simp)) .nil))) rfl ?_
                refine JO.t (ob_move rfl) rfl ?_
                refine JO.t (ob_extract0 rfl) rfl ?_
                refine JO.t (ob_extract1 rfl) rfl ?_
                refine JO.alloc zo_api_Value rfl fun b9 => ?_
                refine JO.m (obm_store rfl rfl (by repeat (first | exact .here | apply Upd.there)) (by first | exact cnt_is rfl rfl | exact cnt_ex) (by first | exact cnt_is rfl rfl | exact cnt_ex | exact cnt_aggO) ss_api_Value) (by rfl) ?_
                refine JO.t (ob_assign rfl) rfl ?_
                refine JO.nil ?_
                repeat (first | refine JX.next ?_ | refine JX.normal_block ?_)
                refine J.sel [2, 4, 7, 8, 9] (.cons rfl (.cons rfl (.cons rfl (.cons rfl (.cons rfl .nil))))) ?_
                repeat refine J.seq ?_
                refine J.plain ?_
                refine JO.t (ob_move rfl) rfl ?_
                refine JO.t (ob_neq rfl rfl) rfl ?_
                refine JO.nil ?_
                repeat (first | refine JX.next ?_ | refine JX.normal_block ?_)
                refine J.sel [2, 4, 7, 8, 9, 156] (.cons rfl (.cons rfl (.cons rfl (.cons rfl (.cons rfl (.cons rfl .nil)))))) ?_
                repeat refine J.seq ?_
                refine J.cond rfl (fun ht156 => ?_) (fun ht156 => ?_)
                ·
                  try simp only [decide_eq_true_eq, decide_eq_false_iff_not] at ht156
                  repeat refine J.seq ?_
                  refine J.plain ?_
                  refine JO.t (ob_build (cs := [_, _, _]) sh_api_Value .nil rfl rfl) rfl ?_
                  refine JO.t (ob_move rfl) rfl ?_
                  refine JO.m (obm_store rfl rfl (by repeat (first | exact .here | apply Upd.there)) (by first | exact cnt_is rfl rfl | exact cnt_ex) (by first | exact cnt_is rfl rfl | exact cnt_ex | exact cnt_aggO) ss_api_Value) (by rfl) ?_
                  refine JO.t (ob_assign rfl) rfl ?_
                  refine JO.nil ?_
                  repeat (first | refine JX.next ?_ | refine JX.normal_block ?_)
                  refine J.sel [4, 5] (.cons rfl (.cons rfl .nil)) ?_
                  repeat refine J.seq ?_
                  refine J.ret ?_
                  repeat (first | refine JX.ret_pass ?_ | refine JX.ret_block ?_)
                  exact JX.retC1is rfl rfl sz_api_Value HasOwn.mem rfl rfl (by first | (simp +decide only [refTopF, *, ↓reduceIte] <;> rfl) | (rw [refTopF]; simp +decide only [*, ↓reduceIte]; rw [refTwoF, refAt_get _ _ 0 (by simp at ht119; omega)]; simp +decide only [*, ↓reduceIte] <;> rfl) | (rw [refTopF]; simp +decide only [*, ↓reduceIte]; rw [refTwoF, refAt_get _ _ 0 (by simp at ht119; omega), refAt_get _ _ 1 (by simp at ht119; omega)]; simp +decide only [*, ↓reduceIte] <;> rfl)) (by first | (simp +decide only [refTopF, *, ↓reduceIte] <;> rfl) | (rw [refTopF]; simp +decide only [*, ↓reduceIte]; rw [refTwoF, refAt_get _ _ 0 (by simp at ht119; omega)]; simp +decide only [*, ↓reduceIte] <;> rfl) | (rw [refTopF]; simp +decide only [*, ↓reduceIte]; rw [refTwoF, refAt_get _ _ 0 (by simp at ht119; omega), refAt_get _ _ 1 (by simp at ht119; omega)]; simp +decide only [*, ↓reduceIte] <;> rfl))
                ·
                  try simp only [decide_eq_true_eq, decide_eq_false_iff_not] at ht156
                  refine J.skip ?_
                  repeat (first | refine JX.next ?_ | refine JX.normal_block ?_)
                  repeat refine J.seq ?_
                  refine J.reg0 hmx (by kernel_rfl) (by kernel_rfl) ?_
                  refine RT.t (ob_fieldAddr fo_api_Value_0 rfl) ?_
                  refine RT.t (ob_ld1 sz_int rfl rfl) ?_
                  refine RT.t (ob_eql rfl rfl) ?_
                  refine RT.t (ob_move rfl) ?_
                  refine RT.g rfl rfl rfl (fun hg => ob_fieldAddr fo_api_Value_0 (.inl rfl)) ?_
                  refine RT.g rfl rfl rfl (fun hg => ob_ld1 sz_int (.inr ⟨_, rfl, fun h => h⟩) rfl) ?_
                  refine RT.g rfl rfl rfl (fun hg => ob_eql (.inr ⟨_, rfl, fun h => h⟩) (.inl rfl)) ?_
                  refine RT.t (ob_pickOr rfl rfl rfl id) ?_
                  refine RT.t (ob_assign rfl) ?_
                  refine RT.nil ?_
                  refine FinS.nil0 ?_
                  repeat (first | refine JX.next ?_ | refine JX.normal_block ?_)
                  refine J.sel [2, 4, 7, 9, 10] (.cons rfl (.cons rfl (.cons rfl (.cons rfl (.cons rfl .nil))))) ?_
                  repeat refine J.seq ?_
                  refine J.plain ?_
                  refine JO.t (ob_fieldAddr fo_api_Expr_0 rfl) rfl ?_
                  refine JO.t (ob_ld1 sz_int rfl rfl) rfl ?_
                  refine JO.t (ob_leq rfl rfl) rfl ?_
                  refine JO.nil ?_
                  repeat (first | refine JX.next ?_ | refine JX.normal_block ?_)
                  refine J.sel [2, 4, 7, 9, 10, 169] (.cons rfl (.cons rfl (.cons rfl (.cons rfl (.cons rfl (.cons rfl .nil)))))) ?_
                  repeat refine J.seq ?_
                  refine J.cond rfl (fun ht169 => ?_) (fun ht169 => ?_)
                  ·
                    try simp only [decide_eq_true_eq, decide_eq_false_iff_not] at ht169
                    repeat refine J.seq ?_
                    refine J.reg0 hmx (by kernel_rfl) (by kernel_rfl) ?_
                    refine RT.t (ob_fieldAddr fo_api_Value_0 rfl) ?_
                    refine RT.t (ob_ld1 sz_int rfl rfl) ?_
                    refine RT.t (ob_neq rfl rfl) ?_
                    refine RT.t (ob_move rfl) ?_
                    refine RT.g rfl rfl rfl (fun hg => ob_fieldAddr fo_api_Value_0 (.inl rfl)) ?_
                    refine RT.g rfl rfl rfl (fun hg => ob_ld1 sz_int (.inr ⟨_, rfl, fun h => h⟩) rfl) ?_
                    refine RT.g rfl rfl rfl (fun hg => ob_neq (.inr ⟨_, rfl, fun h => h⟩) (.inl rfl)) ?_
                    refine RT.t (ob_pickAnd rfl rfl rfl id) ?_
                    refine RT.t (ob_move rfl) ?_
                    refine RT.g rfl rfl rfl (fun hg => ob_fieldAddr fo_api_Value_0 (.inl rfl)) ?_
                    refine RT.g rfl rfl rfl (fun hg => ob_ld1 sz_int (.inr ⟨_, rfl, fun h => h⟩) rfl) ?_
                    refine RT.g rfl rfl rfl (fun hg => ob_neq (.inr ⟨_, rfl, fun h => h⟩) (.inl rfl)) ?_
                    refine RT.g rfl rfl rfl (fun hg => ob_move (.inr ⟨_, rfl, fun h => h⟩)) ?_
                    refine RT.gg rfl rfl rfl (fun hg => (ob_fieldAddr fo_api_Value_0 (.inl rfl))) ?_
                    refine RT.gg rfl rfl rfl (fun hg => (ob_ld1 sz_int (.inr ⟨_, rfl, fun h => h⟩) rfl)) ?_
                    refine RT.gg rfl rfl rfl (fun hg => (ob_neq (.inr ⟨_, rfl, fun h => h⟩) (.inl rfl))) ?_
                    refine RT.g rfl rfl rfl (fun hg => ob_pickAnd (.inr ⟨_, rfl, fun h => h⟩) (.inl rfl) (.inl rfl) (fun h => ⟨hg, h⟩)) ?_
                    refine RT.t (ob_pickOr rfl rfl rfl id) ?_
                    refine RT.nil ?_
                    refine FinS.nil0 ?_
                    repeat (first | refine JX.next ?_ | refine JX.normal_block ?_)
                    refine J.sel [2, 4, 7, 9, 10, 187] (.cons rfl (.cons rfl (.cons rfl (.cons rfl (.cons rfl (.cons rfl .nil)))))) ?_
                    repeat refine J.seq ?_
                    refine J.cond rfl (fun ht187 => ?_) (fun ht187 => ?_)
                    ·
                      try simp only [decide_eq_true_eq, decide_eq_false_iff_not] at ht187
                      repeat refine J.seq ?_
                      refine J.plain ?_
                      refine JO.t (ob_build (cs := [_, _, _]) sh_api_Value .nil rfl rfl) rfl ?_
                      refine JO.m (obm_store rfl rfl (by repeat (first | exact .here | apply Upd.there)) (by first | exact cnt_is rfl rfl | exact cnt_ex) (by first | exact cnt_is rfl rfl | exact cnt_ex | exact cnt_aggO) ss_api_Value) (by rfl) ?_
                      refine JO.t (ob_assign rfl) rfl ?_
                      refine JO.nil ?_
                      repeat (first | refine JX.next ?_ | refine JX.normal_block ?_)
                      refine J.sel [4, 5] (.cons rfl (.cons rfl .nil)) ?_
                      repeat refine J.seq ?_
                      refine J.ret ?_
                      repeat (first | refine JX.ret_pass ?_ | refine JX.ret_block ?_)
                      exact JX.retC1is rfl rfl sz_api_Value HasOwn.mem rfl rfl (by first | (simp +decide only [refTopF, *, ↓reduceIte] <;> rfl) | (rw [refTopF]; simp +decide only [*, ↓reduceIte]; rw [refTwoF, refAt_get _ _ 0 (by simp at ht119; omega)]; simp +decide only [*, ↓reduceIte] <;> rfl) | (rw [refTopF]; simp +decide only [*, ↓reduceIte]; rw [refTwoF, refAt_get _ _ 0 (by simp at ht119; omega), refAt_get _ _ 1 (by simp at ht119; omega)]; simp +decide only [*, ↓reduceIte] <;> rfl)) (by first | (simp +decide only [refTopF, *, ↓reduceIte] <;> rfl) | (rw [refTopF]; simp +decide only [*, ↓reduceIte]; rw [refTwoF, refAt_get _ _ 0 (by simp at ht119; omega)]; simp +decide only [*, ↓reduceIte] <;> rfl) | (rw [refTopF]; simp +decide only [*, ↓reduceIte]; rw [refTwoF, refAt_get _ _ 0 (by simp at ht119; omega), refAt_get _ _ 1 (by simp at ht119; omega)]; simp +decide only [*, ↓reduceIte] <;> rfl))
                    ·
                      try simp only [decide_eq_true_eq, decide_eq_false_iff_not] at ht187
                      refine J.skip ?_
                      repeat (first | refine JX.next ?_ | refine JX.normal_block ?_)
                      repeat refine J.seq ?_
                      refine J.plain ?_
                      refine JO.t (ob_move rfl) rfl ?_
                      refine JO.nil ?_
                      repeat (first | refine JX.next ?_ | refine JX.normal_block ?_)
                      refine J.sel [2, 4, 7, 9, 189] (.cons rfl (.cons rfl (.cons rfl (.cons rfl (.cons rfl .nil))))) ?_
                      repeat refine J.seq ?_
                      refine J.cond rfl (fun ht189 => ?_) (fun ht189 => ?_)
                      ·
                        try simp only [decide_eq_true_eq, decide_eq_false_iff_not] at ht189
                        repeat refine J.seq ?_
                        refine J.plain ?_
                        refine JO.t (ob_build (cs := [_, _, _]) sh_api_Value .nil rfl rfl) rfl ?_
                        refine JO.m (obm_store rfl rfl (by repeat (first | exact .here | apply Upd.there)) (by first | exact cnt_is rfl rfl | exact cnt_ex) (by first | exact cnt_is rfl rfl | exact cnt_ex | exact cnt_aggO) ss_api_Value) (by rfl) ?_
                        refine JO.t (ob_assign rfl) rfl ?_
                        refine JO.nil ?_
                        repeat (first | refine JX.next ?_ | refine JX.normal_block ?_)
                        refine J.sel [4, 5] (.cons rfl (.cons rfl .nil)) ?_
                        repeat refine J.seq ?_
                        refine J.ret ?_
                        repeat (first | refine JX.ret_pass ?_ | refine JX.ret_block ?_)
                        exact JX.retC1is rfl rfl sz_api_Value HasOwn.mem rfl rfl (by first | (simp +decide only [refTopF, *, ↓reduceIte] <;> rfl) | (rw [refTopF]; simp +decide only [*, ↓reduceIte]; rw [refTwoF, refAt_get _ _ 0 (by simp at ht119; omega)]; simp +decide only [*, ↓reduceIte] <;> rfl) | (rw [refTopF]; simp +decide only [*, ↓reduceIte]; rw [refTwoF, refAt_get _ _ 0 (by simp at ht119; omega), refAt_get _ _ 1 (by simp at ht119; omega)]; simp +decide only [*, ↓reduceIte] <;> rfl)) (by first | (simp +decide only [refTopF, *, ↓reduceIte] <;> rfl) | (rw [refTopF]; simp +decide only [*, ↓reduceIte]; rw [refTwoF, refAt_get _ _ 0 (by simp at ht119; omega)]; simp +decide only [*, ↓reduceIte] <;> rfl) | (rw [refTopF]; simp +decide only [*, ↓reduceIte]; rw [refTwoF, refAt_get _ _ 0 (by simp at ht119; omega), refAt_get _ _ 1 (by simp at ht119; omega)]; simp +decide only [*, ↓reduceIte] <;> rfl))
                      ·
                        try simp only [decide_eq_true_eq, decide_eq_false_iff_not] at ht189
                        refine J.skip ?_
                        repeat (first | refine JX.next ?_ | refine JX.normal_block ?_)
                        repeat refine J.seq ?_
                        refine J.plain ?_
                        refine JO.t (ob_fieldAddr fo_api_Expr_0 rfl) rfl ?_
                        refine JO.t (ob_ld1 sz_int rfl rfl) rfl ?_
                        refine JO.t (ob_fieldAddr fo_api_Value_1 rfl) rfl ?_
                        refine JO.t (ob_ld1 sz_int64 rfl rfl) rfl ?_
                        refine JO.t (ob_fieldAddr fo_api_Value_1 rfl) rfl ?_
                        refine JO.t (ob_ld1 sz_int64 rfl rfl) rfl ?_
                        refine JO.t (ob_call rfl (c_ref12_number _ _ _ (refF_rng hv _ (exsRng_mem hx (kid_mem (by simp at ht119; omega)))).2) (.one rfl (.one rfl (.one rfl .nil)))) rfl ?_
                        refine JO.t (ob_extract0 rfl) rfl ?_
                        refine JO.t (ob_extract1 rfl) rfl ?_
                        refine JO.m (obm_store rfl rfl (by repeat (first | exact .here | apply Upd.there)) (by first | exact cnt_is rfl rfl | exact cnt_ex) (by first | exact cnt_is rfl rfl | exact cnt_ex | exact cnt_aggO) ss_api_Value) (by rfl) ?_
                        refine JO.t (ob_assign rfl) rfl ?_
                        refine JO.nil ?_
                        repeat (first | refine JX.next ?_ | refine JX.normal_block ?_)
                        refine J.sel [4, 5] (.cons rfl (.cons rfl .nil)) ?_
                        repeat refine J.seq ?_
                        refine J.ret ?_
                        repeat (first | refine JX.ret_pass ?_ | refine JX.ret_block ?_)
                        exact JX.retC1is rfl rfl sz_api_Value HasOwn.mem rfl rfl (by first | (simp +decide only [refTopF, *, ↓reduceIte] <;> rfl) | (rw [refTopF]; simp +decide only [*, ↓reduceIte]; rw [refTwoF, refAt_get _ _ 0 (by simp at ht119; omega)]; simp +decide only [*, ↓reduceIte] <;> rfl) | (rw [refTopF]; simp +decide only [*, ↓reduceIte]; rw [refTwoF, refAt_get _ _ 0 (by simp at ht119; omega), refAt_get _ _ 1 (by simp at ht119; omega)]; simp +decide only [*, ↓reduceIte] <;> rfl)) (by first | (simp +decide only [refTopF, *, ↓reduceIte] <;> rfl) | (rw [refTopF]; simp +decide only [*, ↓reduceIte]; rw [refTwoF, refAt_get _ _ 0 (by simp at ht119; omega)]; simp +decide only [*, ↓reduceIte] <;> rfl) | (rw [refTopF]; simp +decide only [*, ↓reduceIte]; rw [refTwoF, refAt_get _ _ 0 (by simp at ht119; omega), refAt_get _ _ 1 (by simp at ht119; omega)]; simp +decide only [*, ↓reduceIte] <;> rfl))
                  ·
                    try simp only [decide_eq_true_eq, decide_eq_false_iff_not] at ht169
                    refine J.skip ?_
                    repeat (first | refine JX.next ?_ | refine JX.normal_block ?_)
                    repeat refine J.seq ?_
                    refine J.plain ?_
                    refine JO.t (ob_move rfl) rfl ?_
                    refine JO.nil ?_
                    repeat (first | refine JX.next ?_ | refine JX.normal_block ?_)
                    refine J.sel [2, 4, 7, 9, 200] (.cons rfl (.cons rfl (.cons rfl (.cons rfl (.cons rfl .nil))))) ?_
                    repeat refine J.seq ?_
                    refine J.cond rfl (fun ht200 => ?_) (fun ht200 => ?_)
                    ·
                      try simp only [decide_eq_true_eq, decide_eq_false_iff_not] at ht200
                      repeat refine J.seq ?_
                      refine J.plain ?_
                      refine JO.t (ob_build (cs := [_, _, _]) sh_api_Value .nil rfl rfl) rfl ?_
                      refine JO.m (obm_store rfl rfl (by repeat (first | exact .here | apply Upd.there)) (by first | exact cnt_is rfl rfl | exact cnt_ex) (by first | exact cnt_is rfl rfl | exact cnt_ex | exact cnt_aggO) ss_api_Value) (by rfl) ?_
                      refine JO.t (ob_assign rfl) rfl ?_
                      refine JO.nil ?_
                      repeat (first | refine JX.next ?_ | refine JX.normal_block ?_)
                      refine J.sel [4, 5] (.cons rfl (.cons rfl .nil)) ?_
                      repeat refine J.seq ?_
                      refine J.ret ?_
                      repeat (first | refine JX.ret_pass ?_ | refine JX.ret_block ?_)
                      exact JX.retC1is rfl rfl sz_api_Value HasOwn.mem rfl rfl (by first | (simp +decide only [refTopF, *, ↓reduceIte] <;> rfl) | (rw [refTopF]; simp +decide only [*, ↓reduceIte]; rw [refTwoF, refAt_get _ _ 0 (by simp at ht119; omega)]; simp +decide only [*, ↓reduceIte] <;> rfl) | (rw [refTopF]; simp +decide only [*, ↓reduceIte]; rw [refTwoF, refAt_get _ _ 0 (by simp at ht119; omega), refAt_get _ _ 1 (by simp at ht119; omega)]; simp +decide only [*, ↓reduceIte] <;> rfl)) (by first | (simp +decide only [refTopF, *, ↓reduceIte] <;> rfl) | (rw [refTopF]; simp +decide only [*, ↓reduceIte]; rw [refTwoF, refAt_get _ _ 0 (by simp at ht119; omega)]; simp +decide only [*, ↓reduceIte] <;> rfl) | (rw [refTopF]; simp +decide only [*, ↓reduceIte]; rw [refTwoF, refAt_get _ _ 0 (by simp at ht119; omega), refAt_get _ _ 1 (by simp at ht119; omega)]; simp +decide only [*, ↓reduceIte] <;> rfl))
                    ·
                      try simp only [decide_eq_true_eq, decide_eq_false_iff_not] at ht200
                      refine J.skip ?_
                      repeat (first | refine JX.next ?_ | refine JX.normal_block ?_)
                      repeat refine J.seq ?_
                      refine J.plain ?_
                      refine JO.t (ob_fieldAddr fo_api_Value_0 rfl) rfl ?_
                      refine JO.t (ob_ld1 sz_int rfl rfl) rfl ?_
                      refine JO.t (ob_fieldAddr fo_api_Value_0 rfl) rfl ?_
                      refine JO.t (ob_ld1 sz_int rfl rfl) rfl ?_
                      refine JO.t (ob_neq rfl rfl) rfl ?_
                      refine JO.nil ?_
                      repeat (first | refine JX.next ?_ | refine JX.normal_block ?_)
                      refine J.sel [2, 4, 7, 9, 206] (.cons rfl (.cons rfl (.cons rfl (.cons rfl (.cons rfl .nil))))) ?_
                      repeat refine J.seq ?_
                      refine J.cond rfl (fun ht206 => ?_) (fun ht206 => ?_)
                      ·
                        try simp only [decide_eq_true_eq, decide_eq_false_iff_not] at ht206
                        repeat refine J.seq ?_
                        refine J.plain ?_
                        refine JO.t (ob_build (cs := [_, _, _]) sh_api_Value .nil rfl rfl) rfl ?_
                        refine JO.m (obm_store rfl rfl (by repeat (first | exact .here | apply Upd.there)) (by first | exact cnt_is rfl rfl | exact cnt_ex) (by first | exact cnt_is rfl rfl | exact cnt_ex | exact cnt_aggO) ss_api_Value) (by rfl) ?_
                        refine JO.t (ob_assign rfl) rfl ?_
                        refine JO.nil ?_
                        repeat (first | refine JX.next ?_ | refine JX.normal_block ?_)
                        refine J.sel [4, 5] (.cons rfl (.cons rfl .nil)) ?_
                        repeat refine J.seq ?_
                        refine J.ret ?_
                        repeat (first | refine JX.ret_pass ?_ | refine JX.ret_block ?_)
                        exact JX.retC1is rfl rfl sz_api_Value HasOwn.mem rfl rfl (by first | (simp +decide only [refTopF, *, ↓reduceIte] <;> rfl) | (rw [refTopF]; simp +decide only [*, ↓reduceIte]; rw [refTwoF, refAt_get _ _ 0 (by simp at ht119; omega)]; simp +decide only [*, ↓reduceIte] <;> rfl) | (rw [refTopF]; simp +decide only [*, ↓reduceIte]; rw [refTwoF, refAt_get _ _ 0 (by simp at ht119; omega), refAt_get _ _ 1 (by simp at ht119; omega)]; simp +decide only [*, ↓reduceIte] <;> rfl)) (by first | (simp +decide only [refTopF, *, ↓reduceIte] <;> rfl) | (rw [refTopF]; simp +decide only [*, ↓reduceIte]; rw [refTwoF, refAt_get _ _ 0 (by simp at ht119; omega)]; simp +decide only [*, ↓reduceIte] <;> rfl) | (rw [refTopF]; simp +decide only [*, ↓reduceIte]; rw [refTwoF, refAt_get _ _ 0 (by simp at ht119; omega), refAt_get _ _ 1 (by simp at ht119; omega)]; simp +decide only [*, ↓reduceIte] <;> rfl))
                      ·
                        try simp only [decide_eq_true_eq, decide_eq_false_iff_not] at ht206
                        refine J.skip ?_
                        repeat (first | refine JX.next ?_ | refine JX.normal_block ?_)
                        repeat refine J.seq ?_
                        refine J.plain ?_
                        refine JO.t (ob_ldN (cs := [_, _, _]) sz_api_Value rfl rfl rfl) rfl ?_
                        refine JO.t (ob_ldN (cs := [_, _, _]) sz_api_Value rfl rfl rfl) rfl ?_
                        refine JO.t (ob_call rfl (c_ref01_Compare _ _ _ _ _ _) (.one rfl (.one rfl .nil))) rfl ?_
                        refine JO.t (ob_assign rfl) rfl ?_
                        refine JO.nil ?_
                        repeat (first | refine JX.next ?_ | refine JX.normal_block ?_)
                        refine J.sel [2, 4, 11] (.cons rfl (.cons rfl (.cons rfl .nil))) ?_
                        repeat refine J.seq ?_
                        refine J.plain ?_
                        refine JO.t (ob_move rfl) rfl ?_
                        refine JO.t (ob_eql rfl rfl) rfl ?_
                        refine JO.t (ob_move rfl) rfl ?_
                        refine JO.t (ob_neq rfl rfl) rfl ?_
                        refine JO.t (ob_move rfl) rfl ?_
                        refine JO.t (ob_lss rfl rfl) rfl ?_
                        refine JO.t (ob_move rfl) rfl ?_
                        refine JO.t (ob_leq rfl rfl) rfl ?_
                        refine JO.t (ob_move rfl) rfl ?_
                        refine JO.t (ob_gtr rfl rfl) rfl ?_
                        refine JO.t (ob_move rfl) rfl ?_
                        refine JO.t (ob_geq rfl rfl) rfl ?_
                        refine JO.t (ob_build (cs := [_, _, _, _, _, _]) sh_6_bool (.cons rfl (.cons rfl (.cons rfl (.cons rfl (.cons rfl (.cons rfl .nil)))))) rfl rfl) rfl ?_
                        refine JO.alloc zo_6_bool rfl fun b12 => ?_
                        refine JO.m (obm_store rfl rfl (by repeat (first | exact .here | apply Upd.there)) (by first | exact cnt_is rfl rfl | exact cnt_ex) (by first | exact cnt_is rfl rfl | exact cnt_ex | exact cnt_aggO) ss_6_bool) (by rfl) ?_
                        refine JO.nil ?_
                        repeat (first | refine JX.next ?_ | refine JX.normal_block ?_)
                        refine J.sel [2, 4, 12] (.cons rfl (.cons rfl (.cons rfl .nil))) ?_
                        repeat refine J.seq ?_
                        refine J.plain ?_
                        refine JO.t (ob_fieldAddr fo_api_Expr_0 rfl) rfl ?_
                        refine JO.t (ob_ld1 sz_int rfl rfl) rfl ?_
                        refine JO.t (ob_subc (cc := k - 10) rfl rfl rfl (by omega) (by simp at ht119; omega)) rfl ?_
                        refine JO.t (ob_indexAddrA (e := ty_bool) (sz := 1) (show Try.prog.underlying 92 = some (.array 6 ty_bool) by kernel_rfl) (by kernel_rfl) rfl rfl (by omega) (by simp at ht119; omega)) rfl ?_
                        refine JO.t (ob_ld1 (v := .bool (opsF k _)) sz_bool rfl (by rw [Nat.zero_add]; exact ops_nth (by simp at ht119; omega) ht169)) rfl ?_
                        refine JO.t (ob_call rfl (c_ref12_Truth _) (.one rfl .nil)) rfl ?_
                        refine JO.m (obm_store rfl rfl (by repeat (first | exact .here | apply Upd.there)) (by first | exact cnt_is rfl rfl | exact cnt_ex) (by first | exact cnt_is rfl rfl | exact cnt_ex | exact cnt_aggO) ss_api_Value) (by rfl) ?_
                        refine JO.t (ob_assign rfl) rfl ?_
                        refine JO.nil ?_
                        repeat (first | refine JX.next ?_ | refine JX.normal_block ?_)
                        refine J.sel [4, 5] (.cons rfl (.cons rfl .nil)) ?_
                        repeat refine J.seq ?_
                        refine J.ret ?_
                        repeat (first | refine JX.ret_pass ?_ | refine JX.ret_block ?_)
                        exact JX.retC1is rfl rfl sz_api_Value HasOwn.mem rfl rfl (by first | (simp +decide only [refTopF, *, ↓reduceIte] <;> rfl) | (rw [refTopF]; simp +decide only [*, ↓reduceIte]; rw [refTwoF, refAt_get _ _ 0 (by simp at ht119; omega)]; simp +decide only [*, ↓reduceIte] <;> rfl) | (rw [refTopF]; simp +decide only [*, ↓reduceIte]; rw [refTwoF, refAt_get _ _ 0 (by simp at ht119; omega), refAt_get _ _ 1 (by simp at ht119; omega)]; simp +decide only [*, ↓reduceIte] <;> rfl)) (by first | (simp +decide only [refTopF, *, ↓reduceIte] <;> rfl) | (rw [refTopF]; simp +decide only [*, ↓reduceIte]; rw [refTwoF, refAt_get _ _ 0 (by simp at ht119; omega)]; simp +decide only [*, ↓reduceIte] <;> rfl) | (rw [refTopF]; simp +decide only [*, ↓reduceIte]; rw [refTwoF, refAt_get _ _ 0 (by simp at ht119; omega), refAt_get _ _ 1 (by simp at ht119; omega)]; simp +decide only [*, ↓reduceIte] <;> rfl))
end Go.Proofs.Ytjlojkchgfeenaa
