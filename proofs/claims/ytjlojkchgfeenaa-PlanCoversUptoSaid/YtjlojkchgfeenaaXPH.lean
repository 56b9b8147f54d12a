/- The greatest value of a type; the columns of a table. No condition. -/
import Derived.Test.YtjlojkchgfeenaaXPG
import Derived.Test.YtjlojkchgfeenaaXSR
set_option maxRecDepth 20000
namespace Go.Proofs.Ytjlojkchgfeenaa
open Go Go.Vc
def tyOk (c : C4) : Bool := !(decide (c.ty < 1) || decide (3 < c.ty))
def colsOf (nm : ByteArray) (cols : List C4) : List C3 := cols.map fun c => ⟨nm, c.n, c.ty⟩
def colsF (nm : ByteArray) (cols : List C4) : List C3 × Bool := if cols.all tyOk then (colsOf nm cols, true) else ([], false)
theorem all_take {α : Type} (p : α → Bool) (d : α) {xs : List α} {i : Nat} (h : i < xs.length) : (xs.take (i + 1)).all p = ((xs.take i).all p && p (xs.getD i d)) := by
  rw [List.take_add_one, List.all_append]
  simp [h]
theorem colsOf_take {nm : ByteArray} {cols : List C4} {i : Nat} (h : i < cols.length) : colsOf nm (cols.take i) ++ [⟨nm, (cols.getD i c4D).n, (cols.getD i c4D).ty⟩] = colsOf nm (cols.take (i + 1)) := by
  unfold colsOf
  rw [List.take_add_one, List.map_append]
  congr 1
  simp [h]
theorem all_not {α : Type} {p : α → Bool} (d : α) {xs : List α} {i : Nat} (h : i < xs.length) (hp : p (xs.getD i d) = false) : xs.all p = false := by
  rw [Bool.eq_false_iff]
  intro ha
  have := List.all_eq_true.1 ha (xs.getD i d) (by simp [h])
  rw [hp] at this
  cases this
theorem c_plan_greatest (k : Int) : CallTy Try.prog f_plan_greatest [.is (.int .i64 k)] (.is (vv (greatF k))) :=
  CallTy.of (fn := Try.f52) Try.func52 (n := 15) rfl rfl rfl (fun _ _ => by kernel_rfl) fun E W => by
  repeat refine J.seq ?_
  refine J.plain ?_
  refine JO.alloc zo_api_Value rfl fun b2 => ?_
  refine JO.nil ?_
  repeat (first | refine JX.next ?_ | refine JX.normal_block ?_)
  refine J.sel [0, 2] (.cons rfl (.cons rfl .nil)) ?_
  repeat refine J.seq ?_
  refine J.plain ?_
  refine JO.t (ob_move rfl) rfl ?_
  refine JO.nil ?_
  repeat (first | refine JX.next ?_ | refine JX.normal_block ?_)
  refine J.sel [0, 2, 3] (.cons rfl (.cons rfl (.cons rfl .nil))) ?_
  repeat refine J.seq ?_
  refine J.block ?_
  repeat refine J.seq ?_
  refine J.plain ?_
  refine JO.t (ob_eql rfl rfl) rfl ?_
  refine JO.t (ob_assign rfl) rfl ?_
  refine JO.nil ?_
  repeat (first | refine JX.next ?_ | refine JX.normal_block ?_)
  refine J.sel [0, 2, 3, 4] (.cons rfl (.cons rfl (.cons rfl (.cons rfl .nil)))) ?_
  repeat refine J.seq ?_
  refine J.cond rfl (fun ht4 => ?_) (fun ht4 => ?_)
  ·
    try simp only [decide_eq_true_eq, decide_eq_false_iff_not] at ht4
    repeat refine J.seq ?_
    refine J.plain ?_
    refine JO.t (ob_move rfl) rfl ?_
    refine JO.t (ob_build (cs := [_, _, _]) sh_api_Value (.cons rfl (.cons rfl .nil)) rfl rfl) rfl ?_
    refine JO.m (obm_store rfl rfl (by repeat (first | exact .here | apply Upd.there)) (by first | exact cnt_is rfl rfl | exact cnt_ex) (by first | exact cnt_is rfl rfl | exact cnt_ex | exact cnt_aggO) ss_api_Value) (by rfl) ?_
    refine JO.nil ?_
    repeat (first | refine JX.next ?_ | refine JX.normal_block ?_)
    refine J.sel [2] (.cons rfl .nil) ?_
    repeat refine J.seq ?_
    refine J.ret ?_
    repeat (first | refine JX.ret_pass ?_ | refine JX.ret_block ?_)
    exact JX.retCis rfl rfl sz_api_Value HasOwn.mem rfl  (by unfold greatF; rw [if_pos ht4] <;> rfl)
  ·
    try simp only [decide_eq_true_eq, decide_eq_false_iff_not] at ht4
    repeat refine J.seq ?_
    refine J.plain ?_
    refine JO.t (ob_eql rfl rfl) rfl ?_
    refine JO.t (ob_assign rfl) rfl ?_
    refine JO.nil ?_
    repeat (first | refine JX.next ?_ | refine JX.normal_block ?_)
    refine J.sel [0, 2, 8] (.cons rfl (.cons rfl (.cons rfl .nil))) ?_
    repeat refine J.seq ?_
    refine J.cond rfl (fun ht8 => ?_) (fun ht8 => ?_)
    ·
      try simp only [decide_eq_true_eq, decide_eq_false_iff_not] at ht8
      repeat refine J.seq ?_
      refine J.plain ?_
      refine JO.t (ob_move rfl) rfl ?_
      refine JO.t (ob_build (cs := [_, _, _]) sh_api_Value (.cons rfl (.cons rfl .nil)) rfl rfl) rfl ?_
      refine JO.m (obm_store rfl rfl (by repeat (first | exact .here | apply Upd.there)) (by first | exact cnt_is rfl rfl | exact cnt_ex) (by first | exact cnt_is rfl rfl | exact cnt_ex | exact cnt_aggO) ss_api_Value) (by rfl) ?_
      refine JO.nil ?_
      repeat (first | refine JX.next ?_ | refine JX.normal_block ?_)
      refine J.sel [2] (.cons rfl .nil) ?_
      repeat refine J.seq ?_
      refine J.ret ?_
      repeat (first | refine JX.ret_pass ?_ | refine JX.ret_block ?_)
      exact JX.retCis rfl rfl sz_api_Value HasOwn.mem rfl  (by unfold greatF; rw [if_neg (by rw [ht4]; simp), if_pos ht8] <;> rfl)
    ·
      try simp only [decide_eq_true_eq, decide_eq_false_iff_not] at ht8
      refine J.skip ?_
      repeat (first | refine JX.next ?_ | refine JX.normal_block ?_)
      repeat refine J.seq ?_
      refine J.plain ?_
      refine JO.t (ob_move rfl) rfl ?_
      refine JO.t (ob_call rfl (c_strings_Repeat64) (.one rfl (.one rfl .nil))) rfl ?_
      refine JO.t (ob_build (cs := [_, _, _]) sh_api_Value (.cons rfl (.cons rfl .nil)) rfl rfl) rfl ?_
      refine JO.m (obm_store rfl rfl (by repeat (first | exact .here | apply Upd.there)) (by first | exact cnt_is rfl rfl | exact cnt_ex) (by first | exact cnt_is rfl rfl | exact cnt_ex | exact cnt_aggO) ss_api_Value) (by rfl) ?_
      refine JO.nil ?_
      repeat (first | refine JX.next ?_ | refine JX.normal_block ?_)
      refine J.sel [2] (.cons rfl .nil) ?_
      repeat refine J.seq ?_
      refine J.ret ?_
      repeat (first | refine JX.ret_pass ?_ | refine JX.ret_block ?_)
      exact JX.retCis rfl rfl sz_api_Value HasOwn.mem rfl  (by unfold greatF; rw [if_neg (by rw [ht4]; simp), if_neg (by rw [ht8]; simp)] <;> rfl)
theorem c_law18_columns (nm : ByteArray) (cols : List C4) (hl : cols.length ≤ 1048576) : CallTy Try.prog f_law18_columns [.rep (TabR nm cols)] (.tup2 (.rep (SlG C3.cells 3 (colsF nm cols).1)) (.is (.bool (colsF nm cols).2))) :=
  CallTy.of (fn := Try.f31) Try.func31 (n := 48) rfl rfl rfl (fun _ _ => by kernel_rfl) fun E W => by
  refine J.openTab (s := 0) rfl (fun ta tl tc tb tq htl hta => ?_)
  subst htl
  repeat refine J.seq ?_
  refine J.plain ?_
  refine JO.box rfl rfl fun b1 => ?_
  refine JO.t (ob_assign rfl) rfl ?_
  refine JO.t (ob_assign rfl) rfl ?_
  refine JO.nil ?_
  repeat (first | refine JX.next ?_ | refine JX.normal_block ?_)
  refine J.sel [1] (.cons rfl .nil) ?_
  repeat refine J.seq ?_
  refine J.plain ?_
  refine JO.t (ob_assign rfl) rfl ?_
  refine JO.nil ?_
  repeat (first | refine JX.next ?_ | refine JX.normal_block ?_)
  refine J.sel [1, 4] (.cons rfl (.cons rfl .nil)) ?_
  repeat refine J.seq ?_
  refine J.plain ?_
  refine JO.t (ob_assign rfl) rfl ?_
  refine JO.nil ?_
  repeat (first | refine JX.next ?_ | refine JX.normal_block ?_)
  refine J.sel [1, 4, 5] (.cons rfl (.cons rfl (.cons rfl .nil))) ?_
  repeat refine J.seq ?_
  refine J.block ?_
  repeat refine J.seq ?_
  refine J.loopG (α := Nat × List C3 × Option (Nat × List Value) × Nat) (fun s => [(1, .is (.pointer (some ⟨b1, 0, none⟩))), (4, .is (sliceO s.2.2.1 s.2.1.length s.2.2.2)), (5, .is (.int .i64 (s.1 : Nat)))]) (fun s => ⟨b1, ty_api_Table, .is (.agg [.string nm, .slice ta cols.length tc].toArray)⟩ :: ownO s.2.2.1 ty_bind_Col []) (fun s => fun _ => True) (fun s => s.1 ≤ cols.length ∧ (s.2.1 = colsOf nm (cols.take s.1) ∧ (cols.take s.1).all tyOk = true) ∧ Grows C3.cells 3 s.2.1 s.2.2.1 s.2.2.2) (fun s => cols.length - s.1) (0, [], none, 0) [1, 4, 5] (.cons rfl (.cons rfl (.cons rfl .nil))) rfl (fun _ => trivial) ⟨by omega, ⟨rfl, rfl⟩, rfl⟩ fun ⟨i, xs, st, cp⟩ ⟨hi, ⟨hx, hall⟩, hG⟩ => ?_
  try dsimp only
  try dsimp only at xs
  try dsimp only at st
  try dsimp only at cp
  try dsimp only at hi
  try dsimp only at hx
  try dsimp only at hall
  try dsimp only at hG
  repeat refine J.seq ?_
  refine J.plain ?_
  refine JO.t (ob_move rfl) rfl ?_
  refine JO.t (ob_fieldAddr fo_api_Table_1 rfl) rfl ?_
  refine JO.t (ob_ld1 sz_sl_api_Column rfl rfl) rfl ?_
  refine JO.t (ob_len un_sl_api_Column rfl) rfl ?_
  refine JO.t (ob_lss rfl rfl) rfl ?_
  refine JO.nil ?_
  repeat (first | refine JX.next ?_ | refine JX.normal_block ?_)
  refine J.sel [1, 4, 5, 10] (.cons rfl (.cons rfl (.cons rfl (.cons rfl .nil)))) ?_
  repeat refine J.seq ?_
  refine J.cond rfl (fun ht10 => ?_) (fun ht10 => ?_)
  ·
    try simp only [decide_eq_true_eq, decide_eq_false_iff_not] at ht10
    refine J.skip ?_
    repeat (first | refine JX.next ?_ | refine JX.normal_block ?_)
    repeat refine J.seq ?_
    refine J.block ?_
    repeat refine J.seq ?_
    refine J.reg0 hmx (by kernel_rfl) (by kernel_rfl) ?_
    refine RT.t (ob_fieldAddr fo_api_Table_1 rfl) ?_
    refine RT.t (ob_ld1 sz_sl_api_Column rfl rfl) ?_
    refine RT.t (ob_move rfl) ?_
    refine RT.t (ob_indexAddr el_sl_api_Column rfl (hta (by omega)) rfl (by omega) (by omega)) ?_
    refine RT.t (ob_fieldAddr fo_api_Column_1 rfl) ?_
    refine RT.t (ob_loadG1 (enc := C4.cells) (sz := 4) (len := cols.length) (i := i) (j := 1) (y := cols.getD i c4D) sz_int rfl (by repeat (first | exact List.mem_cons_self | apply List.mem_cons_of_mem)) (hta (by omega)) (c4_get (by omega)) (by omega) rfl) ?_
    refine RT.t (ob_lss rfl rfl) ?_
    refine RT.t (ob_move rfl) ?_
    refine RT.g rfl rfl rfl (fun hg => ob_fieldAddr fo_api_Table_1 (.inl rfl)) ?_
    refine RT.g rfl rfl rfl (fun hg => ob_ld1 sz_sl_api_Column (.inr ⟨_, rfl, fun h => h⟩) rfl) ?_
    refine RT.g rfl rfl rfl (fun hg => ob_move (.inl rfl)) ?_
    refine RT.g rfl rfl rfl (fun hg => ob_indexAddr el_sl_api_Column (.inr ⟨_, rfl, fun h => h⟩) (hta (by omega)) (.inr ⟨_, rfl, fun h => h⟩) (by omega) (by omega)) ?_
    refine RT.g rfl rfl rfl (fun hg => ob_fieldAddr fo_api_Column_1 (.inr ⟨_, rfl, fun h => h⟩)) ?_
    refine RT.g rfl rfl rfl (fun hg => ob_loadG1 (enc := C4.cells) (sz := 4) (len := cols.length) (i := i) (j := 1) (y := cols.getD i c4D) sz_int (.inr ⟨_, rfl, fun h => h⟩) (by repeat (first | exact List.mem_cons_self | apply List.mem_cons_of_mem)) (hta (by omega)) (c4_get (by omega)) (by omega) rfl) ?_
    refine RT.g rfl rfl rfl (fun hg => ob_gtr (.inr ⟨_, rfl, fun h => h⟩) (.inl rfl)) ?_
    refine RT.t (ob_pickOr rfl rfl rfl id) ?_
    refine RT.nil ?_
    refine FinS.nil0 ?_
    repeat (first | refine JX.next ?_ | refine JX.normal_block ?_)
    refine J.sel [1, 4, 5, 28] (.cons rfl (.cons rfl (.cons rfl (.cons rfl .nil)))) ?_
    repeat refine J.seq ?_
    refine J.cond rfl (fun ht28 => ?_) (fun ht28 => ?_)
    ·
      try simp only [decide_eq_true_eq, decide_eq_false_iff_not] at ht28
      repeat refine J.seq ?_
      refine J.plain ?_
      refine JO.t (ob_assign rfl) rfl ?_
      refine JO.t (ob_assign rfl) rfl ?_
      refine JO.nil ?_
      repeat (first | refine JX.next ?_ | refine JX.normal_block ?_)
      refine J.sel [2, 3] (.cons rfl (.cons rfl .nil)) ?_
      repeat refine J.seq ?_
      refine J.ret ?_
      repeat (first | refine JX.ret_pass ?_ | refine JX.ret_block ?_)
      exact JX.ret2sub rfl rfl rfl (by first | (rw [show (colsF nm cols).1 = [] by rw [colsF, if_neg (by rw [all_not c4D (i := i) (by omega) (by unfold tyOk; rw [ht28]; rfl)]; simp)]]; exact Sub.slNil) | (rw [← hxs]; exact Sub.slO hG (by repeat (first | exact List.mem_cons_self | apply List.mem_cons_of_mem)))) rfl (Sub.isEq (by first | (rw [hcs]) | (rw [colsF, if_neg (by rw [all_not c4D (i := i) (by omega) (by unfold tyOk; rw [ht28]; rfl)]; simp)])))
    ·
      try simp only [decide_eq_true_eq, decide_eq_false_iff_not] at ht28
      refine J.skip ?_
      repeat (first | refine JX.next ?_ | refine JX.normal_block ?_)
      repeat refine J.seq ?_
      refine J.regS 17 hmx (by kernel_rfl) (by kernel_rfl) ?_
      refine RT.t (ob_move rfl) ?_
      refine RT.t (ob_fieldAddr fo_api_Table_0 rfl) ?_
      refine RT.t (ob_ld1 sz_string rfl rfl) ?_
      refine RT.t (ob_fieldAddr fo_api_Table_1 rfl) ?_
      refine RT.t (ob_ld1 sz_sl_api_Column rfl rfl) ?_
      refine RT.t (ob_move rfl) ?_
      refine RT.t (ob_indexAddr el_sl_api_Column rfl (hta (by omega)) rfl (by omega) (by omega)) ?_
      refine RT.t (ob_fieldAddr fo_api_Column_0 rfl) ?_
      refine RT.t (ob_loadG1 (enc := C4.cells) (sz := 4) (len := cols.length) (i := i) (j := 0) (y := cols.getD i c4D) sz_string rfl (by repeat (first | exact List.mem_cons_self | apply List.mem_cons_of_mem)) (hta (by omega)) (c4_get (by omega)) (by omega) rfl) ?_
      refine RT.t (ob_fieldAddr fo_api_Table_1 rfl) ?_
      refine RT.t (ob_ld1 sz_sl_api_Column rfl rfl) ?_
      refine RT.t (ob_move rfl) ?_
      refine RT.t (ob_indexAddr el_sl_api_Column rfl (hta (by omega)) rfl (by omega) (by omega)) ?_
      refine RT.t (ob_fieldAddr fo_api_Column_1 rfl) ?_
      refine RT.t (ob_loadG1 (enc := C4.cells) (sz := 4) (len := cols.length) (i := i) (j := 1) (y := cols.getD i c4D) sz_int rfl (by repeat (first | exact List.mem_cons_self | apply List.mem_cons_of_mem)) (hta (by omega)) (c4_get (by omega)) (by omega) rfl) ?_
      refine RT.t (ob_build (cs := [_, _, _]) sh_bind_Col (.cons rfl (.cons rfl (.cons rfl .nil))) rfl rfl) ?_
      refine RT.t (ob_buildSlice (cs := [_, _, _]) sl_sl_bind_Col (by omega) (by omega) (.cons rfl .nil) rfl rfl rfl) ?_
      refine RT.nil ?_
      refine FinS.tail0 ?_
      have hxl : xs.length = i := by rw [hx]; unfold colsOf; rw [List.length_map, List.length_take]; omega
      refine JO.apP [⟨nm, (cols.getD i c4D).n, (cols.getD i c4D).ty⟩] ap_sl_bind_Col C3.len (by repeat (first | exact .here | apply Cx.past | apply Cx.there)) hG rfl rfl (fun L => src_new un_sl_bind_Col rfl rfl) (by simp) (by simp; omega) (by simp; omega) rfl (fun st1 cp1 hG1 => ?_)
      refine JO.t (ob_assign rfl) rfl ?_
      refine JO.nil ?_
      repeat (first | refine JX.next ?_ | refine JX.normal_block ?_)
      refine J.sel [1, 4, 5] (.cons rfl (.cons rfl (.cons rfl .nil))) ?_
      repeat refine J.seq ?_
      refine J.plain ?_
      refine JO.t (ob_move rfl) rfl ?_
      refine JO.t (ob_addc (cc := ((i + 1 : Nat) : Int)) rfl rfl (by omega) (by omega) (by omega)) rfl ?_
      refine JO.t (ob_assign rfl) rfl ?_
      refine JO.nil ?_
      repeat refine JX.normal_block ?_
      refine JX.roundG (x := ⟨i, xs, st, cp⟩) (i + 1, xs ++ [⟨nm, (cols.getD i c4D).n, (cols.getD i c4D).ty⟩], st1, cp1) ?_ ?_ [1, 4, 5] ?_ ?_ ?_ ?_
      · exact ⟨by omega, ⟨by subst hx; exact colsOf_take (by omega), by rw [all_take tyOk c4D (by omega), hall]; unfold tyOk; rw [ht28]; rfl⟩, hG1⟩
      · exact (by simp only; omega)
      · exact (.cons rfl (.cons rfl (.cons rfl .nil)))
      · repeat (first | exact .all | exact .nil | refine Has.own (by repeat (first | exact .here | apply Tl.past | apply Tl.there)) ?_ | refine Has.cons (by repeat (first | exact .here | apply Pk.past | apply Pk.there)) ?_)
      · exact fun G hG => by repeat (first | exact hG | refine List.mem_cons_of_mem _ ?_)
      · exact fun _ _ _ => fun _ _ => trivial
  ·
    try simp only [decide_eq_true_eq, decide_eq_false_iff_not] at ht10
    repeat refine J.seq ?_
    refine J.exit ?_
    repeat (first | refine JX.hit ?_ | refine JX.miss rfl ?_ | refine JX.exit_pass ?_)
    repeat (first | refine JX.next ?_ | refine JX.normal_block ?_)
    have hall2 : cols.all tyOk = true := by rw [List.take_of_length_le (by omega)] at hall; exact hall
    have hxs : xs = (colsF nm cols).1 := by rw [hx, List.take_of_length_le (by omega), colsF, if_pos hall2]
    have hcs : (colsF nm cols).2 = true := by rw [colsF, if_pos hall2]
    refine J.freezeO C3.len hG (e := ty_bind_Col) (by repeat (first | exact .here | apply Tl.past | apply Tl.there)) (fun _ h => h) rfl rfl ?_
    repeat refine J.seq ?_
    refine J.plain ?_
    refine JO.t (ob_move rfl) rfl ?_
    refine JO.t (ob_assign rfl) rfl ?_
    refine JO.t (ob_assign rfl) rfl ?_
    refine JO.nil ?_
    repeat (first | refine JX.next ?_ | refine JX.normal_block ?_)
    refine J.sel [2, 3] (.cons rfl (.cons rfl .nil)) ?_
    repeat refine J.seq ?_
    refine J.ret ?_
    repeat (first | refine JX.ret_pass ?_ | refine JX.ret_block ?_)
    exact JX.ret2sub rfl rfl rfl (by first | (rw [show (colsF nm cols).1 = [] by rw [colsF, if_neg (by rw [all_not c4D (i := i) (by omega) (by unfold tyOk; rw [ht28]; rfl)]; simp)]]; exact Sub.slNil) | (rw [← hxs]; exact Sub.slO hG (by repeat (first | exact List.mem_cons_self | apply List.mem_cons_of_mem)))) rfl (Sub.isEq (by first | (rw [hcs]) | (rw [colsF, if_neg (by rw [all_not c4D (i := i) (by omega) (by unfold tyOk; rw [ht28]; rfl)]; simp)])))
end Go.Proofs.Ytjlojkchgfeenaa
