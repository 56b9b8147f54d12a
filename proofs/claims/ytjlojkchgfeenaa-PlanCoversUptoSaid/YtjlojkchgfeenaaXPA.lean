/- What an expression asks of a table. No condition. -/
import Derived.Test.YtjlojkchgfeenaaXW
import Derived.Test.YtjlojkchgfeenaaXG3
set_option maxRecDepth 20000
namespace Go.Proofs.Ytjlojkchgfeenaa
open Go Go.Vc
def turnO (k : Int) : Option (Nat × Value) := if k = 10 then some (0, .int .i64 10) else if k = 12 then some (1, .int .i64 14) else if k = 13 then some (2, .int .i64 15) else if k = 14 then some (3, .int .i64 12) else if k = 15 then some (4, .int .i64 13) else none
def turnF (k : Int) : Int := if k = 10 then 10 else if k = 12 then 14 else if k = 13 then 15 else if k = 14 then 12 else if k = 15 then 13 else 0
theorem turn_find (k : Int) : Instr.findNow (.int .i64) (.int .i64 k) [⟨.int .i64 10, .int .i64 10, 0⟩, ⟨.int .i64 12, .int .i64 14, 1⟩, ⟨.int .i64 13, .int .i64 15, 2⟩, ⟨.int .i64 14, .int .i64 12, 3⟩, ⟨.int .i64 15, .int .i64 13, 4⟩] 0 = some (turnO k) := by
  unfold turnO
  by_cases h1 : k = 10
  · subst h1; rfl
  by_cases h2 : k = 12
  · subst h2; rfl
  by_cases h3 : k = 13
  · subst h3; rfl
  by_cases h4 : k = 14
  · subst h4; rfl
  by_cases h5 : k = 15
  · subst h5; rfl
  have e1 : (k == 10) = false := beq_eq_false_iff_ne.2 h1
  have e2 : (k == 12) = false := beq_eq_false_iff_ne.2 h2
  have e3 : (k == 13) = false := beq_eq_false_iff_ne.2 h3
  have e4 : (k == 14) = false := beq_eq_false_iff_ne.2 h4
  have e5 : (k == 15) = false := beq_eq_false_iff_ne.2 h5
  simp [Instr.findNow, Instr.sameNow, h1, h2, h3, h4, h5, e1, e2, e3, e4, e5]
theorem turn_val (k : Int) : (match turnO k with | some (_, v) => v | none => .int .i64 0) = .int .i64 (turnF k) := by
  unfold turnO turnF
  (repeat' split) <;> simp_all
def litF (x : Ex) : V3 × Bool :=
  if (x.K == 1 && ((x.KS.length : Int) == 0)) then (⟨x.VK, x.VN, x.VS⟩, (x.VK != 0) && okF x.VK x.VN x.VS)
  else if (x.K == 3 && ((x.KS.length : Int) == 1)) then (⟨1, IntKind.i64.wrap (0 - (x.KS.getD 0 exD).VN), ⟨#[]⟩⟩, (((x.KS.getD 0 exD).K == 1) && ((x.KS.getD 0 exD).VK == 1)) && ((x.KS.getD 0 exD).VN != -9223372036854775808))
  else (zero3, false)
def firstX : Ex → Ex
  | .mk k vk vn vs tb nm sl [a, b] => if k == 16 then firstX a else .mk k vk vn vs tb nm sl [a, b]
  | x => x
theorem firstX_step {x : Ex} (h : (x.K == 16 && ((x.KS.length : Int) == 2)) = true) : firstX (x.KS.getD 0 exD) = firstX x ∧ SizeOf.sizeOf (x.KS.getD 0 exD) < SizeOf.sizeOf x := by
  match x, h with
  | .mk k vk vn vs tb nm sl [a, b], h =>
    simp [Ex.K, Ex.KS] at h ⊢
    refine ⟨?_, by omega⟩
    rw [firstX, if_pos (by simpa using h)]
  | .mk k vk vn vs tb nm sl [], h => simp [Ex.K, Ex.KS] at h
  | .mk k vk vn vs tb nm sl [a], h => simp [Ex.K, Ex.KS] at h
  | .mk k vk vn vs tb nm sl (a :: b :: c :: ds), h => simp [Ex.K, Ex.KS] at h; omega
theorem firstX_end {x : Ex} (h : (x.K == 16 && ((x.KS.length : Int) == 2)) = false) : firstX x = x := by
  match x, h with
  | .mk k vk vn vs tb nm sl [a, b], h =>
    simp [Ex.K, Ex.KS] at h
    rw [firstX, if_neg (by simpa using h)]
  | .mk k vk vn vs tb nm sl [], h => rw [firstX]; intro _ _ _ _ _ _ _ _ _ h; simp at h
  | .mk k vk vn vs tb nm sl [a], h => rw [firstX]; intro _ _ _ _ _ _ _ _ _ h; simp at h
  | .mk k vk vn vs tb nm sl (a :: b :: c :: ds), h => rw [firstX]; intro _ _ _ _ _ _ _ _ _ h; simp at h
def askF (cols : List C4) (kind : Int) (a : Ex) (v : V3 × Bool) : Int × Int × V3 :=
  if ((((((!v.2) || (a.K != 24)) || decide (0 < (a.KS.length : Int))) || decide (a.SL < 0)) || decide ((cols.length : Int) ≤ a.SL)) || ((cols.getD a.SL.toNat c4D).ty != v.1.k)) then (0, 0, zero3) else (a.SL, kind, v.1)
def questF (cols : List C4) (x : Ex) : Int × Int × V3 :=
  if ((turnF (firstX x).K == 0) || (((firstX x).KS.length : Int) != 2)) then (0, 0, zero3)
  else if (((firstX x).KS.getD 0 exD).K != 24) then askF cols (turnF (firstX x).K) ((firstX x).KS.getD 1 exD) (litF ((firstX x).KS.getD 0 exD))
  else askF cols (firstX x).K ((firstX x).KS.getD 0 exD) (litF ((firstX x).KS.getD 1 exD))
theorem c4_get {cols : List C4} {i : Nat} (h : i < cols.length) : cols[i]? = some (cols.getD i c4D) := by simp [h]
theorem c_plan_turned (k : Int) : CallTy Try.prog f_plan_turned [.is (.int .i64 k)] (.is (.int .i64 (turnF k))) :=
  CallTy.of (fn := Try.f70) Try.func70 (n := 7) rfl rfl rfl (fun _ _ => by kernel_rfl) fun E W => by
  repeat refine J.seq ?_
  refine J.plain ?_
  refine JO.t (ob_assign rfl) rfl ?_
  refine JO.nil ?_
  repeat (first | refine JX.next ?_ | refine JX.normal_block ?_)
  refine J.sel [0] (.cons rfl .nil) ?_
  repeat refine J.seq ?_
  refine J.plain ?_
  refine JO.mapNew rfl (fun r3 => ?_)
  refine JM.ins un_map_int_int un_int rfl rfl rfl rfl ?_
  refine JM.ins un_map_int_int un_int rfl rfl rfl rfl ?_
  refine JM.ins un_map_int_int un_int rfl rfl rfl rfl ?_
  refine JM.ins un_map_int_int un_int rfl rfl rfl rfl ?_
  refine JM.ins un_map_int_int un_int rfl rfl rfl rfl ?_
  refine JM.move rfl rfl ?_
  refine JM.move rfl rfl ?_
  refine JM.lookup un_map_int_int un_int zo_int rfl rfl rfl (turn_find k) (turn_val k) ?_
  refine JO.t (ob_assign rfl) rfl ?_
  refine JO.nil ?_
  repeat (first | refine JX.next ?_ | refine JX.normal_block ?_)
  refine J.sel [2] (.cons rfl .nil) ?_
  repeat refine J.seq ?_
  refine J.ret ?_
  repeat (first | refine JX.ret_pass ?_ | refine JX.ret_block ?_)
  exact JX.ret1is rfl rfl (by rfl)
theorem c_plan_literal (x : Ex) : CallTy Try.prog f_plan_literal [.rep (ExR x)] (.tup2 (.is (vv (litF x).1)) (.is (.bool (litF x).2))) :=
  CallTy.of (fn := Try.f71) Try.func71 (n := 64) rfl rfl rfl (fun _ _ => by kernel_rfl) fun E W => by
  refine J.openA (s := 0) rfl (fun a len cap b o hlen ha => ?_)
  subst hlen
  repeat refine J.seq ?_
  refine J.plain ?_
  refine JO.box rfl rfl fun b1 => ?_
  refine JO.alloc zo_api_Value rfl fun b2 => ?_
  refine JO.t (ob_assign rfl) rfl ?_
  refine JO.nil ?_
  repeat (first | refine JX.next ?_ | refine JX.normal_block ?_)
  refine J.sel [1, 2] (.cons rfl (.cons rfl .nil)) ?_
  repeat refine J.seq ?_
  refine J.block ?_
  repeat refine J.seq ?_
  refine J.reg0 hmx (by kernel_rfl) (by kernel_rfl) ?_
  refine RT.t (ob_fieldAddr fo_api_Expr_0 rfl) ?_
  refine RT.t (ob_ld1 sz_int rfl rfl) ?_
  refine RT.t (ob_eql rfl rfl) ?_
  refine RT.t (ob_move rfl) ?_
  refine RT.g rfl rfl rfl (fun hg => ob_fieldAddr fo_api_Expr_5 (.inl rfl)) ?_
  refine RT.g rfl rfl rfl (fun hg => ob_ld1 sz_sl_api_Expr (.inr ⟨_, rfl, fun h => h⟩) rfl) ?_
  refine RT.g rfl rfl rfl (fun hg => ob_len un_sl_api_Expr (.inr ⟨_, rfl, fun h => h⟩)) ?_
  refine RT.g rfl rfl rfl (fun hg => ob_eql (.inr ⟨_, rfl, fun h => h⟩) (.inl rfl)) ?_
  refine RT.t (ob_pickAnd rfl rfl rfl id) ?_
  refine RT.t (ob_assign rfl) ?_
  refine RT.nil ?_
  refine FinS.nil0 ?_
  repeat (first | refine JX.next ?_ | refine JX.normal_block ?_)
  refine J.sel [1, 2, 6] (.cons rfl (.cons rfl (.cons rfl .nil))) ?_
  repeat refine J.seq ?_
  refine J.cond rfl (fun ht6 => ?_) (fun ht6 => ?_)
  ·
    try simp only [decide_eq_true_eq, decide_eq_false_iff_not] at ht6
    repeat refine J.seq ?_
    refine J.front b2 (by repeat (first | exact .here | apply Front.there)) ?_
    refine J.reg1 hmx (by kernel_rfl) (by kernel_rfl) ?_
    refine RT.t (ob_fieldAddr fo_api_Expr_1 rfl) ?_
    refine RT.t (ob_ldN (cs := [_, _, _]) sz_api_Value rfl rfl rfl) ?_
    refine RT.t (ob_fieldAddr fo_api_Expr_1 rfl) ?_
    refine RT.t (ob_fieldAddr fo_api_Value_0 rfl) ?_
    refine RT.t (ob_ld1 sz_int rfl rfl) ?_
    refine RT.t (ob_neq rfl rfl) ?_
    refine RT.t (ob_move rfl) ?_
    refine RT.g rfl rfl rfl (fun hg => ob_fieldAddr fo_api_Expr_1 (.inl rfl)) ?_
    refine RT.g rfl rfl rfl (fun hg => ob_ldN (cs := [_, _, _]) sz_api_Value (.inr ⟨_, rfl, fun h => h⟩) rfl rfl) ?_
    refine RT.g rfl rfl rfl (fun hg => ob_call (.inl rfl) (c_value_Ok _ _ _) (.one (.inr ⟨_, rfl, fun h => h⟩) .nil)) ?_
    refine RT.t (ob_pickAnd rfl rfl rfl id) ?_
    refine RT.m rfl (obm_store rfl rfl (by repeat (first | exact .here | apply Upd.there)) (by first | exact cnt_is rfl rfl | exact cnt_ex) (by first | exact cnt_is rfl rfl | exact cnt_ex | exact cnt_aggO) ss_api_Value) (by rfl) ?_
    refine RT.t (ob_assign rfl) ?_
    refine RT.nil ?_
    refine FinS.nil1 ?_
    repeat (first | refine JX.next ?_ | refine JX.normal_block ?_)
    refine J.sel [2, 3] (.cons rfl (.cons rfl .nil)) ?_
    repeat refine J.seq ?_
    refine J.ret ?_
    repeat (first | refine JX.ret_pass ?_ | refine JX.ret_block ?_)
    exact JX.retC1is rfl rfl sz_api_Value HasOwn.mem rfl rfl (by first | (simp +decide only [litF, *, ↓reduceIte] <;> rfl) | (simp_all [litF]; done) | (simp only [litF, zero3, *, ↓reduceIte, Bool.false_eq_true]; done) | (simp_all [litF, zero3]; done) | (simp [litF, zero3, *]; done)) (by first | (simp +decide only [litF, *, ↓reduceIte] <;> rfl) | (simp_all [litF]; done) | (simp only [litF, zero3, *, ↓reduceIte, Bool.false_eq_true]; done) | (simp_all [litF, zero3]; done) | (simp [litF, zero3, *]; done))
  ·
    try simp only [decide_eq_true_eq, decide_eq_false_iff_not] at ht6
    repeat refine J.seq ?_
    refine J.reg0 hmx (by kernel_rfl) (by kernel_rfl) ?_
    refine RT.t (ob_fieldAddr fo_api_Expr_0 rfl) ?_
    refine RT.t (ob_ld1 sz_int rfl rfl) ?_
    refine RT.t (ob_eql rfl rfl) ?_
    refine RT.t (ob_move rfl) ?_
    refine RT.g rfl rfl rfl (fun hg => ob_fieldAddr fo_api_Expr_5 (.inl rfl)) ?_
    refine RT.g rfl rfl rfl (fun hg => ob_ld1 sz_sl_api_Expr (.inr ⟨_, rfl, fun h => h⟩) rfl) ?_
    refine RT.g rfl rfl rfl (fun hg => ob_len un_sl_api_Expr (.inr ⟨_, rfl, fun h => h⟩)) ?_
    refine RT.g rfl rfl rfl (fun hg => ob_eql (.inr ⟨_, rfl, fun h => h⟩) (.inl rfl)) ?_
    refine RT.t (ob_pickAnd rfl rfl rfl id) ?_
    refine RT.t (ob_assign rfl) ?_
    refine RT.nil ?_
    refine FinS.nil0 ?_
    repeat (first | refine JX.next ?_ | refine JX.normal_block ?_)
    refine J.sel [1, 2, 27] (.cons rfl (.cons rfl (.cons rfl .nil))) ?_
    repeat refine J.seq ?_
    refine J.cond rfl (fun ht27 => ?_) (fun ht27 => ?_)
    ·
      try simp only [decide_eq_true_eq, decide_eq_false_iff_not] at ht27
      repeat refine J.seq ?_
      refine J.reg0 hmx (by kernel_rfl) (by kernel_rfl) ?_
      refine RT.t (ob_fieldAddr fo_api_Expr_5 rfl) ?_
      refine RT.t (ob_ld1 sz_sl_api_Expr rfl rfl) ?_
      refine RT.t (ob_indexAddr el_sl_api_Expr rfl (ha (by have h27 := ht27; simp at h27; omega)) rfl (by omega) (by have h27 := ht27; simp at h27; omega)) ?_
      refine RT.t (ob_fieldAddr fo_api_Expr_1 rfl) ?_
      refine RT.t (ob_loadKidVA (i := 0) (len := x.KS.length) (x := x.KS.getD 0 exD) sz_api_Value rfl (by repeat (first | exact List.mem_cons_self | apply List.mem_cons_of_mem)) (ha (by have h27 := ht27; simp at h27; omega)) (kid_get (by have h27 := ht27; simp at h27; omega)) (by omega)) ?_
      refine RT.t (ob_fieldAddr fo_api_Expr_5 rfl) ?_
      refine RT.t (ob_ld1 sz_sl_api_Expr rfl rfl) ?_
      refine RT.t (ob_indexAddr el_sl_api_Expr rfl (ha (by have h27 := ht27; simp at h27; omega)) rfl (by omega) (by have h27 := ht27; simp at h27; omega)) ?_
      refine RT.t (ob_fieldAddr fo_api_Expr_0 rfl) ?_
      refine RT.t (ob_loadKidFA (i := 0) (j := 0) (len := x.KS.length) (x := x.KS.getD 0 exD) sz_int rfl (by repeat (first | exact List.mem_cons_self | apply List.mem_cons_of_mem)) (ha (by have h27 := ht27; simp at h27; omega)) (kid_get (by have h27 := ht27; simp at h27; omega)) (by omega) (fun _ _ _ => rfl)) ?_
      refine RT.t (ob_eql rfl rfl) ?_
      refine RT.n zc_api_Value ?_
      refine RT.s 11 rfl rfl rfl rfl (cnt_is rfl rfl) ss_api_Value (by simp) ?_
      refine RT.t (ob_assign rfl) ?_
      refine RT.nil ?_
      refine FinS.cons fun b4 => ?_
      refine FinS.nil1 ?_
      repeat (first | refine JX.next ?_ | refine JX.normal_block ?_)
      refine J.sel [2, 4, 5] (.cons rfl (.cons rfl (.cons rfl .nil))) ?_
      repeat refine J.seq ?_
      refine J.front b2 (by repeat (first | exact .here | apply Front.there)) ?_
      refine J.reg1 hmx (by kernel_rfl) (by kernel_rfl) ?_
      refine RT.t (ob_fieldAddr fo_api_Value_1 rfl) ?_
      refine RT.t (ob_ld1 sz_int64 rfl rfl) ?_
      refine RT.t (ob_neg rfl) ?_
      refine RT.t (ob_build (cs := [_, _, _]) sh_api_Value (.cons rfl (.cons rfl .nil)) rfl rfl) ?_
      refine RT.t (ob_move rfl) ?_
      refine RT.t (ob_move rfl) ?_
      refine RT.g rfl rfl rfl (fun hg => ob_fieldAddr fo_api_Value_0 (.inl rfl)) ?_
      refine RT.g rfl rfl rfl (fun hg => ob_ld1 sz_int (.inr ⟨_, rfl, fun h => h⟩) rfl) ?_
      refine RT.g rfl rfl rfl (fun hg => ob_eql (.inr ⟨_, rfl, fun h => h⟩) (.inl rfl)) ?_
      refine RT.t (ob_pickAnd rfl rfl rfl id) ?_
      refine RT.t (ob_move rfl) ?_
      refine RT.g rfl rfl rfl (fun hg => ob_fieldAddr fo_api_Value_1 (.inl rfl)) ?_
      refine RT.g rfl rfl rfl (fun hg => ob_ld1 sz_int64 (.inr ⟨_, rfl, fun h => h⟩) rfl) ?_
      refine RT.g rfl rfl rfl (fun hg => ob_neq (.inr ⟨_, rfl, fun h => h⟩) (.inl rfl)) ?_
      refine RT.t (ob_pickAnd rfl rfl rfl id) ?_
      refine RT.m rfl (obm_store rfl rfl (by repeat (first | exact .here | apply Upd.there)) (by first | exact cnt_is rfl rfl | exact cnt_ex) (by first | exact cnt_is rfl rfl | exact cnt_ex | exact cnt_aggO) ss_api_Value) (by rfl) ?_
      refine RT.t (ob_assign rfl) ?_
      refine RT.nil ?_
      refine FinS.nil1 ?_
      repeat (first | refine JX.next ?_ | refine JX.normal_block ?_)
      refine J.sel [2, 3] (.cons rfl (.cons rfl .nil)) ?_
      repeat refine J.seq ?_
      refine J.ret ?_
      repeat (first | refine JX.ret_pass ?_ | refine JX.ret_block ?_)
      exact JX.retC1is rfl rfl sz_api_Value HasOwn.mem rfl rfl (by first | (simp +decide only [litF, *, ↓reduceIte] <;> rfl) | (simp_all [litF]; done) | (simp only [litF, zero3, *, ↓reduceIte, Bool.false_eq_true]; done) | (simp_all [litF, zero3]; done) | (simp [litF, zero3, *]; done)) (by first | (simp +decide only [litF, *, ↓reduceIte] <;> rfl) | (simp_all [litF]; done) | (simp only [litF, zero3, *, ↓reduceIte, Bool.false_eq_true]; done) | (simp_all [litF, zero3]; done) | (simp [litF, zero3, *]; done))
    ·
      try simp only [decide_eq_true_eq, decide_eq_false_iff_not] at ht27
      refine J.skip ?_
      repeat (first | refine JX.next ?_ | refine JX.normal_block ?_)
      repeat refine J.seq ?_
      refine J.plain ?_
      refine JO.t (ob_build (cs := [_, _, _]) sh_api_Value .nil rfl rfl) rfl ?_
      refine JO.m (obm_store rfl rfl (by repeat (first | exact .here | apply Upd.there)) (by first | exact cnt_is rfl rfl | exact cnt_ex) (by first | exact cnt_is rfl rfl | exact cnt_ex | exact cnt_aggO) ss_api_Value) (by rfl) ?_
      refine JO.t (ob_assign rfl) rfl ?_
      refine JO.nil ?_
      repeat (first | refine JX.next ?_ | refine JX.normal_block ?_)
      refine J.sel [2, 3] (.cons rfl (.cons rfl .nil)) ?_
      repeat refine J.seq ?_
      refine J.ret ?_
      repeat (first | refine JX.ret_pass ?_ | refine JX.ret_block ?_)
      exact JX.retC1is rfl rfl sz_api_Value HasOwn.mem rfl rfl (by first | (simp +decide only [litF, *, ↓reduceIte] <;> rfl) | (simp_all [litF]; done) | (simp only [litF, zero3, *, ↓reduceIte, Bool.false_eq_true]; done) | (simp_all [litF, zero3]; done) | (simp [litF, zero3, *]; done)) (by first | (simp +decide only [litF, *, ↓reduceIte] <;> rfl) | (simp_all [litF]; done) | (simp only [litF, zero3, *, ↓reduceIte, Bool.false_eq_true]; done) | (simp_all [litF, zero3]; done) | (simp [litF, zero3, *]; done))
end Go.Proofs.Ytjlojkchgfeenaa
