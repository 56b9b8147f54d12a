/- Which rows a read has. No condition. -/
import Derived.Test.YtjlojkchgfeenaaXPD
import Derived.Test.YtjlojkchgfeenaaXG3
set_option maxRecDepth 20000
namespace Go.Proofs.Ytjlojkchgfeenaa
open Go Go.Vc
theorem req_api_Read : REq Try.prog ty_api_Read ty_api_Value ty_int ty_int64 ty_string := { veq_api_Value with rt := by kernel_rfl, rp := by kernel_rfl, rg := by kernel_rfl, rf := by kernel_rfl, rs := by kernel_rfl }
def vcmp (a b : V3) : Int := vcmpF a.k a.n a.s b.k b.n b.s
def coversF (r : Rd) (vals : List V3) : Bool :=
  if (decide (r.col < 0) || decide ((vals.length : Int) ≤ r.col)) then (r.col == -1)
  else ((v3at vals r.col).k == 0) || (decide (vcmp r.lo (v3at vals r.col) ≤ 0) && decide (vcmp (v3at vals r.col) r.hi ≤ 0))
def okR (v : V3) : Bool := ok1F v.k v.n v.s
theorem all_drop {α : Type} (p : α → Bool) (d : α) (xs : List α) (i : Nat) (h : i < xs.length) : (xs.drop i).all p = (p (xs.getD i d) && (xs.drop (i + 1)).all p) := by
  rw [List.drop_eq_getElem_cons h, List.all_cons]
  simp [h]
theorem vals_get {vals : List V3} {i : Nat} (h : i < vals.length) : vals[i]? = some (vals.getD i zero3) := by simp [h]
theorem c_plan_Covers (r : Rd) (vals : List V3) : CallTy Try.prog f_plan_Covers [.is (rdV r), .rep (RowS vals)] (.is (.bool (coversF r vals))) :=
  CallTy.of (fn := Try.f30) Try.func30 (n := 41) rfl rfl rfl (fun _ _ => by kernel_rfl) fun E W => by
  refine J.openRow (s := 1) rfl (fun a len cap b o hlen ra => ?_)
  subst hlen
  repeat refine J.seq ?_
  refine J.plain ?_
  refine JO.box rfl rfl fun b2 => ?_
  refine JO.t (ob_assign rfl) rfl ?_
  refine JO.nil ?_
  repeat (first | refine JX.next ?_ | refine JX.normal_block ?_)
  refine J.sel [1, 2] (.cons rfl (.cons rfl .nil)) ?_
  repeat refine J.seq ?_
  refine J.reg0 hmx (by kernel_rfl) (by kernel_rfl) ?_
  refine RT.t (ob_fieldAddr fo_api_Read_1 rfl) ?_
  refine RT.t (ob_ld1 sz_int rfl rfl) ?_
  refine RT.t (ob_lss rfl rfl) ?_
  refine RT.t (ob_move rfl) ?_
  refine RT.g rfl rfl rfl (fun hg => ob_fieldAddr fo_api_Read_1 (.inl rfl)) ?_
  refine RT.g rfl rfl rfl (fun hg => ob_ld1 sz_int (.inr ⟨_, rfl, fun h => h⟩) rfl) ?_
  refine RT.g rfl rfl rfl (fun hg => ob_move (.inl rfl)) ?_
  refine RT.g rfl rfl rfl (fun hg => ob_len un_sl_api_Value (.inr ⟨_, rfl, fun h => h⟩)) ?_
  refine RT.g rfl rfl rfl (fun hg => ob_geq (.inr ⟨_, rfl, fun h => h⟩) (.inr ⟨_, rfl, fun h => h⟩)) ?_
  refine RT.t (ob_pickOr rfl rfl rfl id) ?_
  refine RT.nil ?_
  refine FinS.nil0 ?_
  repeat (first | refine JX.next ?_ | refine JX.normal_block ?_)
  refine J.sel [1, 2, 15] (.cons rfl (.cons rfl (.cons rfl .nil))) ?_
  repeat refine J.seq ?_
  refine J.cond rfl (fun ht15 => ?_) (fun ht15 => ?_)
  ·
    try simp only [decide_eq_true_eq, decide_eq_false_iff_not] at ht15
    repeat refine J.seq ?_
    refine J.plain ?_
    refine JO.t (ob_fieldAddr fo_api_Read_1 rfl) rfl ?_
    refine JO.t (ob_ld1 sz_int rfl rfl) rfl ?_
    refine JO.t (ob_eql rfl rfl) rfl ?_
    refine JO.t (ob_assign rfl) rfl ?_
    refine JO.nil ?_
    repeat (first | refine JX.next ?_ | refine JX.normal_block ?_)
    refine J.sel [4] (.cons rfl .nil) ?_
    repeat refine J.seq ?_
    refine J.ret ?_
    repeat (first | refine JX.ret_pass ?_ | refine JX.ret_block ?_)
    exact JX.ret1is rfl rfl (by first | (simp +decide only [coversF, *, ↓reduceIte] <;> rfl) | (simp_all [coversF]; done) | (simp only [coversF, vcmp, *, ↓reduceIte, Bool.false_eq_true]; done) | (simp_all [coversF, vcmp]; done) | (simp [coversF, vcmp, *]; done))
  ·
    try simp only [decide_eq_true_eq, decide_eq_false_iff_not] at ht15
    refine J.skip ?_
    repeat (first | refine JX.next ?_ | refine JX.normal_block ?_)
    repeat refine J.seq ?_
    refine J.plain ?_
    refine JO.t (ob_move rfl) rfl ?_
    refine JO.t (ob_fieldAddr fo_api_Read_1 rfl) rfl ?_
    refine JO.t (ob_ld1 sz_int rfl rfl) rfl ?_
    refine JO.t (ob_indexAddr el_sl_api_Value rfl (ra (by have h3 := ht15; simp only [Bool.or_eq_false_iff, decide_eq_false_iff_not] at h3; omega)) rfl (by have h3 := ht15; simp only [Bool.or_eq_false_iff, decide_eq_false_iff_not] at h3; omega) (by have h3 := ht15; simp only [Bool.or_eq_false_iff, decide_eq_false_iff_not] at h3; omega)) rfl ?_
    refine JO.t (ob_loadVal (i := r.col.toNat) (v := v3at vals r.col) (vals := vals) (len := vals.length) sz_api_Value rfl (by repeat (first | exact List.mem_cons_self | apply List.mem_cons_of_mem)) (ra (by have h3 := ht15; simp only [Bool.or_eq_false_iff, decide_eq_false_iff_not] at h3; omega)) (v3at_get (by have h3 := ht15; simp only [Bool.or_eq_false_iff, decide_eq_false_iff_not] at h3; omega) (by have h3 := ht15; simp only [Bool.or_eq_false_iff, decide_eq_false_iff_not] at h3; omega)) (by have h3 := ht15; simp only [Bool.or_eq_false_iff, decide_eq_false_iff_not] at h3; omega)) rfl ?_
    refine JO.alloc zo_api_Value rfl fun b5 => ?_
    refine JO.m (obm_store rfl rfl (by repeat (first | exact .here | apply Upd.there)) (by first | exact cnt_is rfl rfl | exact cnt_ex) (by first | exact cnt_is rfl rfl | exact cnt_ex | exact cnt_aggO) ss_api_Value) (by rfl) ?_
    refine JO.nil ?_
    repeat (first | refine JX.next ?_ | refine JX.normal_block ?_)
    refine J.sel [2, 5] (.cons rfl (.cons rfl .nil)) ?_
    repeat refine J.seq ?_
    refine J.reg0 hmx (by kernel_rfl) (by kernel_rfl) ?_
    refine RT.t (ob_fieldAddr fo_api_Value_0 rfl) ?_
    refine RT.t (ob_ld1 sz_int rfl rfl) ?_
    refine RT.t (ob_eql rfl rfl) ?_
    refine RT.t (ob_move rfl) ?_
    refine RT.g rfl rfl rfl (fun hg => ob_fieldAddr fo_api_Read_2 (.inl rfl)) ?_
    refine RT.g rfl rfl rfl (fun hg => ob_ldN (cs := [_, _, _]) sz_api_Value (.inr ⟨_, rfl, fun h => h⟩) rfl rfl) ?_
    refine RT.g rfl rfl rfl (fun hg => ob_ldN (cs := [_, _, _]) sz_api_Value (.inl rfl) rfl rfl) ?_
    refine RT.g rfl rfl rfl (fun hg => ob_call (.inl rfl) (c_value_Compare _ _ _ _ _ _) (.one (.inr ⟨_, rfl, fun h => h⟩) (.one (.inr ⟨_, rfl, fun h => h⟩) .nil))) ?_
    refine RT.g rfl rfl rfl (fun hg => ob_leq (.inr ⟨_, rfl, fun h => h⟩) (.inl rfl)) ?_
    refine RT.g rfl rfl rfl (fun hg => ob_move (.inr ⟨_, rfl, fun h => h⟩)) ?_
    refine RT.gg rfl rfl rfl (fun hg => (ob_ldN (cs := [_, _, _]) sz_api_Value (.inl rfl) rfl rfl)) ?_
    refine RT.gg rfl rfl rfl (fun hg => (ob_fieldAddr fo_api_Read_3 (.inl rfl))) ?_
    refine RT.gg rfl rfl rfl (fun hg => (ob_ldN (cs := [_, _, _]) sz_api_Value (.inr ⟨_, rfl, fun h => h⟩) rfl rfl)) ?_
    refine RT.gg rfl rfl rfl (fun hg => (ob_call (.inl rfl) (c_value_Compare _ _ _ _ _ _) (.one (.inr ⟨_, rfl, fun h => h⟩) (.one (.inr ⟨_, rfl, fun h => h⟩) .nil)))) ?_
    refine RT.gg rfl rfl rfl (fun hg => (ob_leq (.inr ⟨_, rfl, fun h => h⟩) (.inl rfl))) ?_
    refine RT.g rfl rfl rfl (fun hg => ob_pickAnd (.inr ⟨_, rfl, fun h => h⟩) (.inl rfl) (.inl rfl) (fun h => ⟨hg, h⟩)) ?_
    refine RT.t (ob_pickOr rfl rfl rfl id) ?_
    refine RT.t (ob_assign rfl) ?_
    refine RT.nil ?_
    refine FinS.nil0 ?_
    repeat (first | refine JX.next ?_ | refine JX.normal_block ?_)
    refine J.sel [4] (.cons rfl .nil) ?_
    repeat refine J.seq ?_
    refine J.ret ?_
    repeat (first | refine JX.ret_pass ?_ | refine JX.ret_block ?_)
    exact JX.ret1is rfl rfl (by first | (simp +decide only [coversF, *, ↓reduceIte] <;> rfl) | (simp_all [coversF]; done) | (simp only [coversF, vcmp, *, ↓reduceIte, Bool.false_eq_true]; done) | (simp_all [coversF, vcmp]; done) | (simp [coversF, vcmp, *]; done))
theorem c_law18_right (vals : List V3) (hl : vals.length ≤ 9223372036854775807) : CallTy Try.prog f_law18_right [.rep (RowS vals)] (.is (.bool (vals.all okR))) :=
  CallTy.of (fn := Try.f29) Try.func29 (n := 16) rfl rfl rfl (fun _ _ => by kernel_rfl) fun E W => by
  refine J.openRow (s := 0) rfl (fun a len cap b o hlen ra => ?_)
  subst hlen
  repeat refine J.seq ?_
  refine J.plain ?_
  refine JO.t (ob_assign rfl) rfl ?_
  refine JO.nil ?_
  repeat (first | refine JX.next ?_ | refine JX.normal_block ?_)
  refine J.sel [0] (.cons rfl .nil) ?_
  repeat refine J.seq ?_
  refine J.plain ?_
  refine JO.t (ob_assign rfl) rfl ?_
  refine JO.nil ?_
  repeat (first | refine JX.next ?_ | refine JX.normal_block ?_)
  refine J.sel [0, 3] (.cons rfl (.cons rfl .nil)) ?_
  repeat refine J.seq ?_
  refine J.block ?_
  repeat refine J.seq ?_
  refine J.loopF (α := Nat) (fun s => [(0, .is (.slice a vals.length cap)), (3, .is (.int .i64 (s : Nat)))]) (fun s => s ≤ vals.length ∧ (vals.drop s).all okR = vals.all okR) (fun s => vals.length - s) 0 [0, 3] (.cons rfl (.cons rfl .nil)) ⟨Nat.zero_le _, rfl⟩ fun i ⟨hi, hgo⟩ => ?_
  repeat refine J.seq ?_
  refine J.plain ?_
  refine JO.t (ob_move rfl) rfl ?_
  refine JO.t (ob_move rfl) rfl ?_
  refine JO.t (ob_len un_sl_api_Value rfl) rfl ?_
  refine JO.t (ob_lss rfl rfl) rfl ?_
  refine JO.nil ?_
  repeat (first | refine JX.next ?_ | refine JX.normal_block ?_)
  refine J.sel [0, 3, 7] (.cons rfl (.cons rfl (.cons rfl .nil))) ?_
  repeat refine J.seq ?_
  refine J.cond rfl (fun ht7 => ?_) (fun ht7 => ?_)
  ·
    try simp only [decide_eq_true_eq, decide_eq_false_iff_not] at ht7
    refine J.skip ?_
    repeat (first | refine JX.next ?_ | refine JX.normal_block ?_)
    repeat refine J.seq ?_
    refine J.block ?_
    repeat refine J.seq ?_
    refine J.plain ?_
    refine JO.t (ob_move rfl) rfl ?_
    refine JO.t (ob_move rfl) rfl ?_
    refine JO.t (ob_indexAddr el_sl_api_Value rfl (ra (by omega)) rfl (by omega) (by omega)) rfl ?_
    refine JO.t (ob_loadVal (i := i) (v := vals.getD i zero3) (vals := vals) (len := vals.length) sz_api_Value rfl (by repeat (first | exact List.mem_cons_self | apply List.mem_cons_of_mem)) (ra (by omega)) (vals_get (by omega)) (by omega)) rfl ?_
    refine JO.t (ob_call rfl (c_ref01_Ok _ _ _) (.one rfl .nil)) rfl ?_
    refine JO.t (ob_not rfl) rfl ?_
    refine JO.nil ?_
    repeat (first | refine JX.next ?_ | refine JX.normal_block ?_)
    refine J.sel [0, 3, 15] (.cons rfl (.cons rfl (.cons rfl .nil))) ?_
    repeat refine J.seq ?_
    refine J.cond rfl (fun ht15 => ?_) (fun ht15 => ?_)
    ·
      try simp only [decide_eq_true_eq, decide_eq_false_iff_not] at ht15
      repeat refine J.seq ?_
      refine J.plain ?_
      refine JO.t (ob_assign rfl) rfl ?_
      refine JO.nil ?_
      repeat (first | refine JX.next ?_ | refine JX.normal_block ?_)
      refine J.sel [2] (.cons rfl .nil) ?_
      repeat refine J.seq ?_
      refine J.ret ?_
      repeat (first | refine JX.ret_pass ?_ | refine JX.ret_block ?_)
      exact JX.ret1is rfl rfl (by rw [← hgo, all_drop okR zero3 vals i (by omega)]; simp only [Bool.not_eq_true'] at ht15; rw [show okR (vals.getD i zero3) = false from ht15, Bool.false_and])
    ·
      try simp only [decide_eq_true_eq, decide_eq_false_iff_not] at ht15
      refine J.skip ?_
      repeat (first | refine JX.next ?_ | refine JX.normal_block ?_)
      repeat refine J.seq ?_
      refine J.plain ?_
      refine JO.t (ob_move rfl) rfl ?_
      refine JO.t (ob_addc (cc := ((i + 1 : Nat) : Int)) rfl rfl (by omega) (by omega) (by omega)) rfl ?_
      refine JO.t (ob_assign rfl) rfl ?_
      refine JO.nil ?_
      repeat refine JX.normal_block ?_
      refine JX.roundS (i + 1) ?_ ?_ [0, 3] ?_ ?_ ?_
      · exact ⟨by omega, by rw [← hgo, all_drop okR zero3 vals i (by omega)]; simp only [Bool.not_eq_false'] at ht15; rw [show okR (vals.getD i zero3) = true from ht15, Bool.true_and]⟩
      · exact (by omega)
      · exact (.cons rfl (.cons rfl .nil))
      · repeat (first | exact .slnil | apply List.Sublist.cons_cons | apply List.Sublist.cons)
      · repeat (first | exact .slnil | apply List.Sublist.cons_cons | apply List.Sublist.cons)
  ·
    try simp only [decide_eq_true_eq, decide_eq_false_iff_not] at ht7
    repeat refine J.seq ?_
    refine J.exit ?_
    repeat (first | refine JX.hit ?_ | refine JX.miss rfl ?_ | refine JX.exit_pass ?_)
    repeat (first | refine JX.next ?_ | refine JX.normal_block ?_)
    repeat refine J.seq ?_
    refine J.plain ?_
    refine JO.t (ob_assign rfl) rfl ?_
    refine JO.nil ?_
    repeat (first | refine JX.next ?_ | refine JX.normal_block ?_)
    refine J.sel [2] (.cons rfl .nil) ?_
    repeat refine J.seq ?_
    refine J.ret ?_
    repeat (first | refine JX.ret_pass ?_ | refine JX.ret_block ?_)
    exact JX.ret1is rfl rfl (by rw [← hgo, List.drop_of_length_le (by omega)]; rfl)
end Go.Proofs.Ytjlojkchgfeenaa
