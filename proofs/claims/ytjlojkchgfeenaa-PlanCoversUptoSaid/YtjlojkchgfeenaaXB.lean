/- Contracts of the functions on numbers and values. No condition. -/
import Derived.Test.YtjlojkchgfeenaaXA
set_option maxRecDepth 20000
namespace Go.Proofs.Ytjlojkchgfeenaa
open Go Go.Vc
def orL : List Int → Int
  | [] => 0
  | x :: xs => if x != 0 then x else orL xs
theorem orL_drop (xs : List Int) (k : Nat) (h : k < xs.length) : orL (xs.drop k) = if xs.getD k 0 != 0 then xs.getD k 0 else orL (xs.drop (k + 1)) := by
  rw [List.drop_eq_getElem_cons h, orL]
  simp [h]
def vcmpF (k1 n1 : Int) (s1 : ByteArray) (k2 n2 : Int) (s2 : ByteArray) : Int := orL [cmpF k1 k2, cmpF n1 n2, scmpF s1 s2]
def ok1F (k n : Int) (s : ByteArray) : Bool :=
  if ((((decide (k < 0) || decide (3 < k)) || ((k != 3) && (!seq s ⟨#[]⟩))) || ((k == 0) && (n != 0))) || ((k == 3) && (n != 0))) then false
  else if (((k == 2) && (n != 0)) && (n != 1)) then false else decide ((s.size : Int) ≤ 64)
def cmp1F (k1 n1 : Int) (s1 : ByteArray) (k2 n2 : Int) (s2 : ByteArray) : Int :=
  if (decide (k1 < k2) || ((k1 == k2) && decide (n1 < n2)) || ((k1 == k2) && (n1 == n2) && slt s1 s2)) then -1 else 1
def sizeF (n : Int) : Int := if n < 0 then IntKind.u64.wrap (IntKind.u64.wrap (IntKind.i64.wrap (0 - IntKind.i64.wrap (n + 1))) + 1) else IntKind.u64.wrap n
def signedF (u : Int) (neg : Bool) : Int × Bool := if neg then (IntKind.i64.wrap (0 - IntKind.i64.wrap u), decide (u ≤ 9223372036854775808)) else (IntKind.i64.wrap u, decide (u ≤ 9223372036854775807))
def addF (a b : Int) : Int × Bool :=
  if (decide (a < 0) == decide (b < 0)) then
    (if ((decide (IntKind.u64.wrap (9223372036854775808 - sizeF b) < sizeF a) && decide (0 < sizeF b)) && decide (0 < sizeF a)) then (0, false) else signedF (IntKind.u64.wrap (sizeF a + sizeF b)) (decide (a < 0)))
  else (IntKind.i64.wrap (a + b), true)
def mulF (a b : Int) : Int × Bool :=
  if (decide (0 < sizeF b) && decide (IntKind.u64.wrap ((9223372036854775808 : Int).tdiv (sizeF b)) < sizeF a)) then (0, false) else signedF (IntKind.u64.wrap (sizeF a * sizeF b)) (!(decide (a < 0) == decide (b < 0)))
theorem c_cmp_Or_int (xs : List Int) (hl : xs.length ≤ 1000) : CallTy Try.prog f_cmp_Or_int [.newSl (.cells (xs.map (Value.int .i64)).toArray ty_int (0, 0)) xs.length xs.length] (.is (.int .i64 (orL xs))) :=
  CallTy.of (fn := Try.f66) Try.func66 (n := 18) rfl rfl rfl (fun _ _ => by kernel_rfl) fun E W => by
  repeat refine J.seq ?_
  refine J.plain ?_
  refine JO.t (ob_assign rfl) rfl ?_
  refine JO.nil ?_
  repeat (first | refine JX.next ?_ | refine JX.normal_block ?_)
  refine J.sel [0] (.cons rfl .nil) ?_
  repeat refine J.seq ?_
  refine J.plain ?_
  refine JO.t (ob_assign rfl) rfl ?_
  refine JO.nil ?_
  repeat (first | refine JX.next ?_ | refine JX.normal_block ?_)
  refine J.sel [0, 3] (.cons rfl (.cons rfl .nil)) ?_
  repeat refine J.seq ?_
  refine J.plain ?_
  refine JO.t (ob_move rfl) rfl ?_
  refine JO.t (ob_lenNew un_sl_int rfl) rfl ?_
  refine JO.t (ob_move rfl) rfl ?_
  refine JO.nil ?_
  repeat (first | refine JX.next ?_ | refine JX.normal_block ?_)
  refine J.sel [3, 6, 7, 8] (.cons rfl (.cons rfl (.cons rfl (.cons rfl .nil)))) ?_
  repeat refine J.seq ?_
  refine J.block ?_
  repeat refine J.seq ?_
  refine J.loopF (α := Nat) (fun k => [(3, .is (.int .i64 0)), (6, .newSl (.cells (xs.map (Value.int .i64)).toArray ty_int (0, 0)) xs.length xs.length), (7, .is (.int .i64 xs.length)), (8, .is (.int .i64 (k : Nat)))]) (fun k => k ≤ xs.length ∧ orL (xs.drop k) = orL xs) (fun k => xs.length - k) 0 [3, 6, 7, 8] (.cons rfl (.cons rfl (.cons rfl (.cons rfl .nil)))) ⟨by omega, by simp⟩ fun k ⟨hk, hor⟩ => ?_
  repeat refine J.seq ?_
  refine J.plain ?_
  refine JO.t (ob_lss rfl rfl) rfl ?_
  refine JO.nil ?_
  repeat (first | refine JX.next ?_ | refine JX.normal_block ?_)
  refine J.sel [3, 6, 7, 8, 9] (.cons rfl (.cons rfl (.cons rfl (.cons rfl (.cons rfl .nil))))) ?_
  repeat refine J.seq ?_
  refine J.cond rfl (fun ht9 => ?_) (fun ht9 => ?_)
  ·
    try simp only [decide_eq_true_eq, decide_eq_false_iff_not] at ht9
    refine J.skip ?_
    repeat (first | refine JX.next ?_ | refine JX.normal_block ?_)
    repeat refine J.seq ?_
    refine J.block ?_
    repeat refine J.seq ?_
    refine J.plain ?_
    refine JO.t (ob_indexNew el_sl_int rfl rfl (by omega) (by omega)) rfl ?_
    refine JO.t (ob_loadNew1 (v := .int .i64 (xs.getD k 0)) sz_int rfl (by have h : k < xs.length := (by omega); simp [h])) rfl ?_
    refine JO.t (ob_assign rfl) rfl ?_
    refine JO.nil ?_
    repeat (first | refine JX.next ?_ | refine JX.normal_block ?_)
    refine J.sel [3, 5, 6, 7, 8] (.cons rfl (.cons rfl (.cons rfl (.cons rfl (.cons rfl .nil))))) ?_
    repeat refine J.seq ?_
    refine J.plain ?_
    refine JO.t (ob_move rfl) rfl ?_
    refine JO.t (ob_move rfl) rfl ?_
    refine JO.t (ob_neq rfl rfl) rfl ?_
    refine JO.nil ?_
    repeat (first | refine JX.next ?_ | refine JX.normal_block ?_)
    refine J.sel [3, 5, 6, 7, 8, 14] (.cons rfl (.cons rfl (.cons rfl (.cons rfl (.cons rfl (.cons rfl .nil)))))) ?_
    repeat refine J.seq ?_
    refine J.cond rfl (fun ht14 => ?_) (fun ht14 => ?_)
    ·
      try simp only [decide_eq_true_eq, decide_eq_false_iff_not] at ht14
      repeat refine J.seq ?_
      refine J.plain ?_
      refine JO.t (ob_move rfl) rfl ?_
      refine JO.t (ob_assign rfl) rfl ?_
      refine JO.nil ?_
      repeat (first | refine JX.next ?_ | refine JX.normal_block ?_)
      refine J.sel [2] (.cons rfl .nil) ?_
      repeat refine J.seq ?_
      refine J.ret ?_
      repeat (first | refine JX.ret_pass ?_ | refine JX.ret_block ?_)
      exact JX.ret1is rfl rfl (by rw [← hor, orL_drop xs k (by omega)]; simp_all)
    ·
      try simp only [decide_eq_true_eq, decide_eq_false_iff_not] at ht14
      refine J.skip ?_
      repeat (first | refine JX.next ?_ | refine JX.normal_block ?_)
      repeat refine J.seq ?_
      refine J.plain ?_
      refine JO.t (ob_addc (cc := ((k + 1 : Nat) : Int)) rfl rfl (by omega) (by omega) (by omega)) rfl ?_
      refine JO.t (ob_move rfl) rfl ?_
      refine JO.nil ?_
      refine JX.roundS (k + 1) ?_ ?_ [3, 6, 7, 8] ?_ ?_ ?_
      · exact ⟨by omega, by rw [← hor, orL_drop xs k (by omega)]; simp_all⟩
      · exact (by omega)
      · exact (.cons rfl (.cons rfl (.cons rfl (.cons rfl .nil))))
      · repeat (first | exact .slnil | apply List.Sublist.cons_cons | apply List.Sublist.cons)
      · repeat (first | exact .slnil | apply List.Sublist.cons_cons | apply List.Sublist.cons)
  ·
    try simp only [decide_eq_true_eq, decide_eq_false_iff_not] at ht9
    repeat refine J.seq ?_
    refine J.exit ?_
    repeat (first | refine JX.hit ?_ | refine JX.miss rfl ?_ | refine JX.exit_pass ?_)
    repeat (first | refine JX.next ?_ | refine JX.normal_block ?_)
    repeat refine J.seq ?_
    refine J.plain ?_
    refine JO.t (ob_move rfl) rfl ?_
    refine JO.t (ob_assign rfl) rfl ?_
    refine JO.nil ?_
    repeat (first | refine JX.next ?_ | refine JX.normal_block ?_)
    refine J.sel [2] (.cons rfl .nil) ?_
    repeat refine J.seq ?_
    refine J.ret ?_
    repeat (first | refine JX.ret_pass ?_ | refine JX.ret_block ?_)
    exact JX.ret1is rfl rfl (by rw [← hor, List.drop_of_length_le (by omega)]; rfl)
theorem c_value_Compare (k1 n1 : Int) (s1 : ByteArray) (k2 n2 : Int) (s2 : ByteArray) : CallTy Try.prog f_value_Compare [.is (.agg #[.int .i64 k1, .int .i64 n1, .string s1]), .is (.agg #[.int .i64 k2, .int .i64 n2, .string s2])] (.is (.int .i64 (vcmpF k1 n1 s1 k2 n2 s2))) :=
  CallTy.of (fn := Try.f45) Try.func45 (n := 22) rfl rfl rfl (fun _ _ => by kernel_rfl) fun E W => by
  repeat refine J.seq ?_
  refine J.plain ?_
  refine JO.box rfl rfl fun b2 => ?_
  refine JO.box rfl rfl fun b3 => ?_
  refine JO.t (ob_assign rfl) rfl ?_
  refine JO.nil ?_
  repeat (first | refine JX.next ?_ | refine JX.normal_block ?_)
  refine J.sel [2, 3] (.cons rfl (.cons rfl .nil)) ?_
  repeat refine J.seq ?_
  refine J.reg0 hmx (by kernel_rfl) (by kernel_rfl) ?_
  refine RT.t (ob_fieldAddr fo_api_Value_0 rfl) ?_
  refine RT.t (ob_ld1 sz_int rfl rfl) ?_
  refine RT.t (ob_fieldAddr fo_api_Value_0 rfl) ?_
  refine RT.t (ob_ld1 sz_int rfl rfl) ?_
  refine RT.t (ob_call rfl (c_cmp_Compare_int _ _) (.one rfl (.one rfl .nil))) ?_
  refine RT.t (ob_fieldAddr fo_api_Value_1 rfl) ?_
  refine RT.t (ob_ld1 sz_int64 rfl rfl) ?_
  refine RT.t (ob_fieldAddr fo_api_Value_1 rfl) ?_
  refine RT.t (ob_ld1 sz_int64 rfl rfl) ?_
  refine RT.t (ob_call rfl (c_cmp_Compare_int64 _ _) (.one rfl (.one rfl .nil))) ?_
  refine RT.t (ob_fieldAddr fo_api_Value_2 rfl) ?_
  refine RT.t (ob_ld1 sz_string rfl rfl) ?_
  refine RT.t (ob_fieldAddr fo_api_Value_2 rfl) ?_
  refine RT.t (ob_ld1 sz_string rfl rfl) ?_
  refine RT.t (ob_call rfl (c_cmp_Compare_string _ _) (.one rfl (.one rfl .nil))) ?_
  refine RT.t (ob_buildSlice (cs := [_, _, _]) sl_sl_int (by omega) (by omega) (.cons rfl (.cons rfl (.cons rfl .nil))) rfl rfl rfl) ?_
  refine RT.t (ob_call rfl (c_cmp_Or_int [_, _, _] (by simp)) (.one rfl .nil)) ?_
  refine RT.t (ob_assign rfl) ?_
  refine RT.nil ?_
  refine FinS.nil0 ?_
  repeat (first | refine JX.next ?_ | refine JX.normal_block ?_)
  refine J.sel [4] (.cons rfl .nil) ?_
  repeat refine J.seq ?_
  refine J.ret ?_
  repeat (first | refine JX.ret_pass ?_ | refine JX.ret_block ?_)
  exact JX.ret1is rfl rfl (by rfl)
theorem c_ref01_Ok (k n : Int) (s : ByteArray) : CallTy Try.prog f_ref01_Ok [.is (.agg #[.int .i64 k, .int .i64 n, .string s])] (.is (.bool (ok1F k n s))) :=
  CallTy.of (fn := Try.f39) Try.func39 (n := 58) rfl rfl rfl (fun _ _ => by kernel_rfl) fun E W => by
  repeat refine J.seq ?_
  refine J.plain ?_
  refine JO.box rfl rfl fun b1 => ?_
  refine JO.t (ob_assign rfl) rfl ?_
  refine JO.nil ?_
  repeat (first | refine JX.next ?_ | refine JX.normal_block ?_)
  refine J.sel [1] (.cons rfl .nil) ?_
  repeat refine J.seq ?_
  refine J.reg0 hmx (by kernel_rfl) (by kernel_rfl) ?_
  refine RT.t (ob_fieldAddr fo_api_Value_0 rfl) ?_
  refine RT.t (ob_ld1 sz_int rfl rfl) ?_
  refine RT.t (ob_lss rfl rfl) ?_
  refine RT.t (ob_move rfl) ?_
  refine RT.g rfl rfl rfl (fun hg => ob_fieldAddr fo_api_Value_0 (.inl rfl)) ?_
  refine RT.g rfl rfl rfl (fun hg => ob_ld1 sz_int (.inr ⟨_, rfl, fun h => h⟩) rfl) ?_
  refine RT.g rfl rfl rfl (fun hg => ob_gtr (.inr ⟨_, rfl, fun h => h⟩) (.inl rfl)) ?_
  refine RT.t (ob_pickOr rfl rfl rfl id) ?_
  refine RT.t (ob_move rfl) ?_
  refine RT.g rfl rfl rfl (fun hg => ob_fieldAddr fo_api_Value_0 (.inl rfl)) ?_
  refine RT.g rfl rfl rfl (fun hg => ob_ld1 sz_int (.inr ⟨_, rfl, fun h => h⟩) rfl) ?_
  refine RT.g rfl rfl rfl (fun hg => ob_neq (.inr ⟨_, rfl, fun h => h⟩) (.inl rfl)) ?_
  refine RT.g rfl rfl rfl (fun hg => ob_move (.inr ⟨_, rfl, fun h => h⟩)) ?_
  refine RT.gg rfl rfl rfl (fun hg => (ob_fieldAddr fo_api_Value_2 (.inl rfl))) ?_
  refine RT.gg rfl rfl rfl (fun hg => (ob_ld1 sz_string (.inr ⟨_, rfl, fun h => h⟩) rfl)) ?_
  refine RT.gg rfl rfl rfl (fun hg => (ob_sneq (.inr ⟨_, rfl, fun h => h⟩) (.inl rfl))) ?_
  refine RT.g rfl rfl rfl (fun hg => ob_pickAnd (.inr ⟨_, rfl, fun h => h⟩) (.inl rfl) (.inl rfl) (fun h => ⟨hg, h⟩)) ?_
  refine RT.t (ob_pickOr rfl rfl rfl id) ?_
  refine RT.t (ob_move rfl) ?_
  refine RT.g rfl rfl rfl (fun hg => ob_fieldAddr fo_api_Value_0 (.inl rfl)) ?_
  refine RT.g rfl rfl rfl (fun hg => ob_ld1 sz_int (.inr ⟨_, rfl, fun h => h⟩) rfl) ?_
  refine RT.g rfl rfl rfl (fun hg => ob_eql (.inr ⟨_, rfl, fun h => h⟩) (.inl rfl)) ?_
  refine RT.g rfl rfl rfl (fun hg => ob_move (.inr ⟨_, rfl, fun h => h⟩)) ?_
  refine RT.gg rfl rfl rfl (fun hg => (ob_fieldAddr fo_api_Value_1 (.inl rfl))) ?_
  refine RT.gg rfl rfl rfl (fun hg => (ob_ld1 sz_int64 (.inr ⟨_, rfl, fun h => h⟩) rfl)) ?_
  refine RT.gg rfl rfl rfl (fun hg => (ob_neq (.inr ⟨_, rfl, fun h => h⟩) (.inl rfl))) ?_
  refine RT.g rfl rfl rfl (fun hg => ob_pickAnd (.inr ⟨_, rfl, fun h => h⟩) (.inl rfl) (.inl rfl) (fun h => ⟨hg, h⟩)) ?_
  refine RT.t (ob_pickOr rfl rfl rfl id) ?_
  refine RT.t (ob_move rfl) ?_
  refine RT.g rfl rfl rfl (fun hg => ob_fieldAddr fo_api_Value_0 (.inl rfl)) ?_
  refine RT.g rfl rfl rfl (fun hg => ob_ld1 sz_int (.inr ⟨_, rfl, fun h => h⟩) rfl) ?_
  refine RT.g rfl rfl rfl (fun hg => ob_eql (.inr ⟨_, rfl, fun h => h⟩) (.inl rfl)) ?_
  refine RT.g rfl rfl rfl (fun hg => ob_move (.inr ⟨_, rfl, fun h => h⟩)) ?_
  refine RT.gg rfl rfl rfl (fun hg => (ob_fieldAddr fo_api_Value_1 (.inl rfl))) ?_
  refine RT.gg rfl rfl rfl (fun hg => (ob_ld1 sz_int64 (.inr ⟨_, rfl, fun h => h⟩) rfl)) ?_
  refine RT.gg rfl rfl rfl (fun hg => (ob_neq (.inr ⟨_, rfl, fun h => h⟩) (.inl rfl))) ?_
  refine RT.g rfl rfl rfl (fun hg => ob_pickAnd (.inr ⟨_, rfl, fun h => h⟩) (.inl rfl) (.inl rfl) (fun h => ⟨hg, h⟩)) ?_
  refine RT.t (ob_pickOr rfl rfl rfl id) ?_
  refine RT.nil ?_
  refine FinS.nil0 ?_
  repeat (first | refine JX.next ?_ | refine JX.normal_block ?_)
  refine J.sel [1, 40] (.cons rfl (.cons rfl .nil)) ?_
  repeat refine J.seq ?_
  refine J.cond rfl (fun ht40 => ?_) (fun ht40 => ?_)
  ·
    try simp only [decide_eq_true_eq, decide_eq_false_iff_not] at ht40
    repeat refine J.seq ?_
    refine J.plain ?_
    refine JO.t (ob_assign rfl) rfl ?_
    refine JO.nil ?_
    repeat (first | refine JX.next ?_ | refine JX.normal_block ?_)
    refine J.sel [2] (.cons rfl .nil) ?_
    repeat refine J.seq ?_
    refine J.ret ?_
    repeat (first | refine JX.ret_pass ?_ | refine JX.ret_block ?_)
    exact JX.ret1is rfl rfl (by first | (simp +decide only [ok1F, *, ↓reduceIte] <;> rfl) | (simp_all [ok1F]; done) | (simp only [ok1F, *, ↓reduceIte, Bool.false_eq_true]; done) | (simp_all [ok1F]; done) | (simp [ok1F, *]; done))
  ·
    try simp only [decide_eq_true_eq, decide_eq_false_iff_not] at ht40
    refine J.skip ?_
    repeat (first | refine JX.next ?_ | refine JX.normal_block ?_)
    repeat refine J.seq ?_
    refine J.reg0 hmx (by kernel_rfl) (by kernel_rfl) ?_
    refine RT.t (ob_fieldAddr fo_api_Value_0 rfl) ?_
    refine RT.t (ob_ld1 sz_int rfl rfl) ?_
    refine RT.t (ob_eql rfl rfl) ?_
    refine RT.t (ob_move rfl) ?_
    refine RT.g rfl rfl rfl (fun hg => ob_fieldAddr fo_api_Value_1 (.inl rfl)) ?_
    refine RT.g rfl rfl rfl (fun hg => ob_ld1 sz_int64 (.inr ⟨_, rfl, fun h => h⟩) rfl) ?_
    refine RT.g rfl rfl rfl (fun hg => ob_neq (.inr ⟨_, rfl, fun h => h⟩) (.inl rfl)) ?_
    refine RT.t (ob_pickAnd rfl rfl rfl id) ?_
    refine RT.t (ob_move rfl) ?_
    refine RT.g rfl rfl rfl (fun hg => ob_fieldAddr fo_api_Value_1 (.inl rfl)) ?_
    refine RT.g rfl rfl rfl (fun hg => ob_ld1 sz_int64 (.inr ⟨_, rfl, fun h => h⟩) rfl) ?_
    refine RT.g rfl rfl rfl (fun hg => ob_neq (.inr ⟨_, rfl, fun h => h⟩) (.inl rfl)) ?_
    refine RT.t (ob_pickAnd rfl rfl rfl id) ?_
    refine RT.nil ?_
    refine FinS.nil0 ?_
    repeat (first | refine JX.next ?_ | refine JX.normal_block ?_)
    refine J.sel [1, 53] (.cons rfl (.cons rfl .nil)) ?_
    repeat refine J.seq ?_
    refine J.cond rfl (fun ht53 => ?_) (fun ht53 => ?_)
    ·
      try simp only [decide_eq_true_eq, decide_eq_false_iff_not] at ht53
      repeat refine J.seq ?_
      refine J.plain ?_
      refine JO.t (ob_assign rfl) rfl ?_
      refine JO.nil ?_
      repeat (first | refine JX.next ?_ | refine JX.normal_block ?_)
      refine J.sel [2] (.cons rfl .nil) ?_
      repeat refine J.seq ?_
      refine J.ret ?_
      repeat (first | refine JX.ret_pass ?_ | refine JX.ret_block ?_)
      exact JX.ret1is rfl rfl (by first | (simp +decide only [ok1F, *, ↓reduceIte] <;> rfl) | (simp_all [ok1F]; done) | (simp only [ok1F, *, ↓reduceIte, Bool.false_eq_true]; done) | (simp_all [ok1F]; done) | (simp [ok1F, *]; done))
    ·
      try simp only [decide_eq_true_eq, decide_eq_false_iff_not] at ht53
      refine J.skip ?_
      repeat (first | refine JX.next ?_ | refine JX.normal_block ?_)
      repeat refine J.seq ?_
      refine J.plain ?_
      refine JO.t (ob_fieldAddr fo_api_Value_2 rfl) rfl ?_
      refine JO.t (ob_ld1 sz_string rfl rfl) rfl ?_
      refine JO.t (ob_slen un_string rfl) rfl ?_
      refine JO.t (ob_leq rfl rfl) rfl ?_
      refine JO.t (ob_assign rfl) rfl ?_
      refine JO.nil ?_
      repeat (first | refine JX.next ?_ | refine JX.normal_block ?_)
      refine J.sel [2] (.cons rfl .nil) ?_
      repeat refine J.seq ?_
      refine J.ret ?_
      repeat (first | refine JX.ret_pass ?_ | refine JX.ret_block ?_)
      exact JX.ret1is rfl rfl (by first | (simp +decide only [ok1F, *, ↓reduceIte] <;> rfl) | (simp_all [ok1F]; done) | (simp only [ok1F, *, ↓reduceIte, Bool.false_eq_true]; done) | (simp_all [ok1F]; done) | (simp [ok1F, *]; done))
theorem c_ref12_Truth (b : Bool) : CallTy Try.prog f_ref12_Truth [.is (.bool b)] (.is (.agg #[.int .i64 2, .int .i64 (truthN b), .string ⟨#[]⟩])) :=
  CallTy.of (fn := Try.f44) Try.func44 (n := 8) rfl rfl rfl (fun _ _ => by kernel_rfl) fun E W => by
  repeat refine J.seq ?_
  refine J.plain ?_
  refine JO.alloc zo_api_Value rfl fun b2 => ?_
  refine JO.nil ?_
  repeat (first | refine JX.next ?_ | refine JX.normal_block ?_)
  refine J.sel [0, 2] (.cons rfl (.cons rfl .nil)) ?_
  repeat refine J.seq ?_
  refine J.plain ?_
  refine JO.t (ob_build (cs := [_, _, _]) sh_api_Value (.cons rfl .nil) rfl rfl) rfl ?_
  refine JO.alloc zo_api_Value rfl fun b3 => ?_
  refine JO.m (obm_store rfl rfl (by repeat (first | exact .here | apply Upd.there)) (by first | exact cnt_is rfl rfl | exact cnt_ex) (by first | exact cnt_is rfl rfl | exact cnt_ex | exact cnt_aggO) ss_api_Value) (by rfl) ?_
  refine JO.nil ?_
  repeat (first | refine JX.next ?_ | refine JX.normal_block ?_)
  refine J.sel [0, 2, 3] (.cons rfl (.cons rfl (.cons rfl .nil))) ?_
  repeat refine J.seq ?_
  refine J.plain ?_
  refine JO.t (ob_move rfl) rfl ?_
  refine JO.nil ?_
  repeat (first | refine JX.next ?_ | refine JX.normal_block ?_)
  refine J.sel [2, 3, 5] (.cons rfl (.cons rfl (.cons rfl .nil))) ?_
  repeat refine J.seq ?_
  refine J.cond rfl (fun ht5 => ?_) (fun ht5 => ?_)
  ·
    try simp only [decide_eq_true_eq, decide_eq_false_iff_not] at ht5
    repeat refine J.seq ?_
    refine J.plain ?_
    refine JO.t (ob_fieldAddr fo_api_Value_1 rfl) rfl ?_
    refine JO.m (obm_storeF (cs' := [_, _, _]) rfl rfl (by repeat (first | exact .here | apply Upd.there)) rfl rfl rfl rfl ss_int64) (by rfl) ?_
    refine JO.nil ?_
    repeat (first | refine JX.next ?_ | refine JX.normal_block ?_)
    refine J.sel [2, 3] (.cons rfl (.cons rfl .nil)) ?_
    repeat refine J.seq ?_
    refine J.plain ?_
    refine JO.t (ob_ldN (cs := [_, _, _]) sz_api_Value rfl rfl rfl) rfl ?_
    refine JO.m (obm_store rfl rfl (by repeat (first | exact .here | apply Upd.there)) (by first | exact cnt_is rfl rfl | exact cnt_ex) (by first | exact cnt_is rfl rfl | exact cnt_ex | exact cnt_aggO) ss_api_Value) (by rfl) ?_
    refine JO.nil ?_
    repeat (first | refine JX.next ?_ | refine JX.normal_block ?_)
    refine J.sel [2] (.cons rfl .nil) ?_
    repeat refine J.seq ?_
    refine J.ret ?_
    repeat (first | refine JX.ret_pass ?_ | refine JX.ret_block ?_)
    exact JX.retCis rfl rfl sz_api_Value HasOwn.mem rfl  (by first | (simp +decide only [truthN, *, ↓reduceIte] <;> rfl) | (simp_all [truthN]; done) | (simp only [truthN, *, ↓reduceIte, Bool.false_eq_true]; done) | (simp_all [truthN]; done) | (simp [truthN, *]; done))
  ·
    try simp only [decide_eq_true_eq, decide_eq_false_iff_not] at ht5
    refine J.skip ?_
    repeat (first | refine JX.next ?_ | refine JX.normal_block ?_)
    repeat refine J.seq ?_
    refine J.plain ?_
    refine JO.t (ob_ldN (cs := [_, _, _]) sz_api_Value rfl rfl rfl) rfl ?_
    refine JO.m (obm_store rfl rfl (by repeat (first | exact .here | apply Upd.there)) (by first | exact cnt_is rfl rfl | exact cnt_ex) (by first | exact cnt_is rfl rfl | exact cnt_ex | exact cnt_aggO) ss_api_Value) (by rfl) ?_
    refine JO.nil ?_
    repeat (first | refine JX.next ?_ | refine JX.normal_block ?_)
    refine J.sel [2] (.cons rfl .nil) ?_
    repeat refine J.seq ?_
    refine J.ret ?_
    repeat (first | refine JX.ret_pass ?_ | refine JX.ret_block ?_)
    exact JX.retCis rfl rfl sz_api_Value HasOwn.mem rfl  (by first | (simp +decide only [truthN, *, ↓reduceIte] <;> rfl) | (simp_all [truthN]; done) | (simp only [truthN, *, ↓reduceIte, Bool.false_eq_true]; done) | (simp_all [truthN]; done) | (simp [truthN, *]; done))
theorem c_ref12_size (n : Int) : CallTy Try.prog f_ref12_size [.is (.int .i64 n)] (.is (.int .u64 (sizeF n))) :=
  CallTy.of (fn := Try.f65) Try.func65 (n := 12) rfl rfl rfl (fun _ _ => by kernel_rfl) fun E W => by
  repeat refine J.seq ?_
  refine J.plain ?_
  refine JO.t (ob_assign rfl) rfl ?_
  refine JO.nil ?_
  repeat (first | refine JX.next ?_ | refine JX.normal_block ?_)
  refine J.sel [0] (.cons rfl .nil) ?_
  repeat refine J.seq ?_
  refine J.plain ?_
  refine JO.t (ob_move rfl) rfl ?_
  refine JO.t (ob_lss rfl rfl) rfl ?_
  refine JO.nil ?_
  repeat (first | refine JX.next ?_ | refine JX.normal_block ?_)
  refine J.sel [0, 4] (.cons rfl (.cons rfl .nil)) ?_
  repeat refine J.seq ?_
  refine J.cond rfl (fun ht4 => ?_) (fun ht4 => ?_)
  ·
    try simp only [decide_eq_true_eq, decide_eq_false_iff_not] at ht4
    repeat refine J.seq ?_
    refine J.plain ?_
    refine JO.t (ob_move rfl) rfl ?_
    refine JO.t (ob_add rfl rfl) rfl ?_
    refine JO.t (ob_neg rfl) rfl ?_
    refine JO.t (ob_convII ⟨_, un_int64⟩ un_uint64 rfl) rfl ?_
    refine JO.t (ob_add rfl rfl) rfl ?_
    refine JO.t (ob_assign rfl) rfl ?_
    refine JO.nil ?_
    repeat (first | refine JX.next ?_ | refine JX.normal_block ?_)
    refine J.sel [2] (.cons rfl .nil) ?_
    repeat refine J.seq ?_
    refine J.ret ?_
    repeat (first | refine JX.ret_pass ?_ | refine JX.ret_block ?_)
    exact JX.ret1is rfl rfl (by first | (simp +decide only [sizeF, *, ↓reduceIte] <;> rfl) | (simp_all [sizeF]; done) | (simp only [sizeF, *, ↓reduceIte, Bool.false_eq_true]; done) | (simp_all [sizeF]; done) | (simp [sizeF, *]; done))
  ·
    try simp only [decide_eq_true_eq, decide_eq_false_iff_not] at ht4
    refine J.skip ?_
    repeat (first | refine JX.next ?_ | refine JX.normal_block ?_)
    repeat refine J.seq ?_
    refine J.plain ?_
    refine JO.t (ob_move rfl) rfl ?_
    refine JO.t (ob_convII ⟨_, un_int64⟩ un_uint64 rfl) rfl ?_
    refine JO.t (ob_assign rfl) rfl ?_
    refine JO.nil ?_
    repeat (first | refine JX.next ?_ | refine JX.normal_block ?_)
    refine J.sel [2] (.cons rfl .nil) ?_
    repeat refine J.seq ?_
    refine J.ret ?_
    repeat (first | refine JX.ret_pass ?_ | refine JX.ret_block ?_)
    exact JX.ret1is rfl rfl (by first | (simp +decide only [sizeF, *, ↓reduceIte] <;> rfl) | (simp_all [sizeF]; done) | (simp only [sizeF, *, ↓reduceIte, Bool.false_eq_true]; done) | (simp_all [sizeF]; done) | (simp [sizeF, *]; done))
theorem c_ref12_signed (u : Int) (neg : Bool) : CallTy Try.prog f_ref12_signed [.is (.int .u64 u), .is (.bool neg)] (.tup2 (.is (.int .i64 (signedF u neg).1)) (.is (.bool (signedF u neg).2))) :=
  CallTy.of (fn := Try.f64) Try.func64 (n := 16) rfl rfl rfl (fun _ _ => by kernel_rfl) fun E W => by
  repeat refine J.seq ?_
  refine J.plain ?_
  refine JO.t (ob_assign rfl) rfl ?_
  refine JO.t (ob_assign rfl) rfl ?_
  refine JO.nil ?_
  repeat (first | refine JX.next ?_ | refine JX.normal_block ?_)
  refine J.sel [0, 1] (.cons rfl (.cons rfl .nil)) ?_
  repeat refine J.seq ?_
  refine J.plain ?_
  refine JO.t (ob_move rfl) rfl ?_
  refine JO.nil ?_
  repeat (first | refine JX.next ?_ | refine JX.normal_block ?_)
  refine J.sel [0, 6] (.cons rfl (.cons rfl .nil)) ?_
  repeat refine J.seq ?_
  refine J.cond rfl (fun ht6 => ?_) (fun ht6 => ?_)
  ·
    try simp only [decide_eq_true_eq, decide_eq_false_iff_not] at ht6
    repeat refine J.seq ?_
    refine J.plain ?_
    refine JO.t (ob_move rfl) rfl ?_
    refine JO.t (ob_convII ⟨_, un_uint64⟩ un_int64 rfl) rfl ?_
    refine JO.t (ob_neg rfl) rfl ?_
    refine JO.t (ob_move rfl) rfl ?_
    refine JO.t (ob_leq rfl rfl) rfl ?_
    refine JO.t (ob_assign rfl) rfl ?_
    refine JO.t (ob_assign rfl) rfl ?_
    refine JO.nil ?_
    repeat (first | refine JX.next ?_ | refine JX.normal_block ?_)
    refine J.sel [4, 5] (.cons rfl (.cons rfl .nil)) ?_
    repeat refine J.seq ?_
    refine J.ret ?_
    repeat (first | refine JX.ret_pass ?_ | refine JX.ret_block ?_)
    exact JX.ret2is rfl rfl rfl (by first | (simp +decide only [signedF, *, ↓reduceIte] <;> rfl) | (simp_all [signedF]; done) | (simp only [signedF, *, ↓reduceIte, Bool.false_eq_true]; done) | (simp_all [signedF]; done) | (simp [signedF, *]; done)) (by first | (simp +decide only [signedF, *, ↓reduceIte] <;> rfl) | (simp_all [signedF]; done) | (simp only [signedF, *, ↓reduceIte, Bool.false_eq_true]; done) | (simp_all [signedF]; done) | (simp [signedF, *]; done))
  ·
    try simp only [decide_eq_true_eq, decide_eq_false_iff_not] at ht6
    refine J.skip ?_
    repeat (first | refine JX.next ?_ | refine JX.normal_block ?_)
    repeat refine J.seq ?_
    refine J.plain ?_
    refine JO.t (ob_move rfl) rfl ?_
    refine JO.t (ob_convII ⟨_, un_uint64⟩ un_int64 rfl) rfl ?_
    refine JO.t (ob_move rfl) rfl ?_
    refine JO.t (ob_leq rfl rfl) rfl ?_
    refine JO.t (ob_assign rfl) rfl ?_
    refine JO.t (ob_assign rfl) rfl ?_
    refine JO.nil ?_
    repeat (first | refine JX.next ?_ | refine JX.normal_block ?_)
    refine J.sel [4, 5] (.cons rfl (.cons rfl .nil)) ?_
    repeat refine J.seq ?_
    refine J.ret ?_
    repeat (first | refine JX.ret_pass ?_ | refine JX.ret_block ?_)
    exact JX.ret2is rfl rfl rfl (by first | (simp +decide only [signedF, *, ↓reduceIte] <;> rfl) | (simp_all [signedF]; done) | (simp only [signedF, *, ↓reduceIte, Bool.false_eq_true]; done) | (simp_all [signedF]; done) | (simp [signedF, *]; done)) (by first | (simp +decide only [signedF, *, ↓reduceIte] <;> rfl) | (simp_all [signedF]; done) | (simp only [signedF, *, ↓reduceIte, Bool.false_eq_true]; done) | (simp_all [signedF]; done) | (simp [signedF, *]; done))
end Go.Proofs.Ytjlojkchgfeenaa
