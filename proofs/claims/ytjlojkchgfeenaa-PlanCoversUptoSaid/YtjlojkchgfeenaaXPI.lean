/- What the statement on the rows outside of a read does. No condition. -/
import Derived.Test.YtjlojkchgfeenaaXLPC
import Derived.Test.YtjlojkchgfeenaaXG3
set_option maxRecDepth 20000
namespace Go.Proofs.Ytjlojkchgfeenaa
open Go Go.Vc
theorem c3_get' {cols : List C3} {i : Nat} (h : i < cols.length) : cols[i]? = some (cols.getD i c3D) := by simp [h]
def badAt (cs : List C3) (vals : List V3) (i : Nat) : Bool := (((vals.getD i zero3).k != 0) && ((vals.getD i zero3).k != (cs.getD i c3D).ty)) || decide (64 < ((vals.getD i zero3).s.size : Int))
theorem okGreat (ixs : List I4) (cols : List C4) (y : Ex) : (((questF cols (([y] : List Ex).getD 0 exD)).2.1 == 14) || ((questF cols (([y] : List Ex).getD 0 exD)).2.1 == 15)) = true → CallTy Try.prog f_plan_greatest [.is (.int .i64 (questF cols (([y] : List Ex).getD 0 exD)).2.2.k)] (.is (vv (greatF (questF cols (([y] : List Ex).getD 0 exD)).2.2.k))) := fun _ => c_plan_greatest _
theorem colsF_len {nm : ByteArray} {cols : List C4} (h : (colsF nm cols).2 = true) : (colsF nm cols).1 = colsOf nm cols ∧ cols.all tyOk = true := by
  unfold colsF at h ⊢
  by_cases hc : cols.all tyOk = true
  · rw [if_pos hc]; exact ⟨rfl, hc⟩
  · rw [if_neg hc] at h; cases h
theorem colsF_le (nm : ByteArray) (cols : List C4) : (colsF nm cols).1.length ≤ cols.length := by
  unfold colsF
  split
  · simp [colsOf]
  · simp
theorem colsOf_ty {nm : ByteArray} {cols : List C4} {i : Nat} (h : i < cols.length) : ((colsOf nm cols).getD i c3D).ty = (cols.getD i c4D).ty := by
  simp [colsOf, h]
theorem covers_fits {nm : ByteArray} {cols : List C4} {vals : List V3} {e b : Bool} (h : ((((((!(colsF nm cols).2) || e) || b) || ((vals.length : Int) != ((colsF nm cols).1.length : Int))) || !(vals.all okR))) = false)
    (hr : ∀ v ∈ vals, v.rng) (hb : ∀ j, j < vals.length → badAt (colsF nm cols).1 vals j = false) : Fits cols vals := by
  simp only [Bool.or_eq_false_iff, Bool.not_eq_false', bne_eq_false_iff_eq] at h
  obtain ⟨⟨⟨⟨h1, _⟩, _⟩, h3⟩, h4⟩ := h
  obtain ⟨e, ht⟩ := colsF_len h1
  rw [e] at h3 hb
  have hl : (colsOf nm cols).length = cols.length := by simp [colsOf]
  refine ⟨ht, by omega, h4, fun i hi => ?_, fun v hv => by have := (hr v hv).2.2; omega⟩
  have := hb i hi
  unfold badAt at this
  rw [colsOf_ty (by omega)] at this
  simp only [Bool.or_eq_false_iff, Bool.and_eq_false_iff, bne_eq_false_iff_eq] at this
  exact this.1
theorem law_last {y : Ex} {nm : ByteArray} {cols : List C4} {ixs : List I4} {vals : List V3} (hF : Fits cols vals) (hw : WF y) (hc : coversF (chooseF [y] nm cols ixs).1 vals = false) :
    ((((decide (0 ≤ (chooseF [y] nm cols ixs).2) && decide ((chooseF [y] nm cols ixs).2 < (ixs.length : Int))) && ((ixs.getD (chooseF [y] nm cols ixs).2.toNat i4D).col == (chooseF [y] nm cols ixs).1.col)) && ((evalF vals y).2 == 0)) && veq (evalF vals y).1.k (evalF vals y).1.n (evalF vals y).1.s 2 0 ⟨#[]⟩) = true := by
  obtain ⟨h1, h2, h3, h4⟩ := law_covers2 hw hF hc
  rw [h3, h4]
  simp [h1, h2, veq, seq_refl]
theorem c_law18_PlanCovers (x : Ex) (nm : ByteArray) (cols : List C4) (ixs : List I4) (vals : List V3) (hl : cols.length ≤ 1048576) (hil : ixs.length ≤ 9223372036854775806) (hvl : vals.length ≤ 9223372036854775806) (hr : ∀ v ∈ vals, v.rng) : CallTy Try.prog f_law18_PlanCovers [.rep (ExR x), .rep (AskR nm cols ixs), .rep (RowS vals)] (.is (.bool true)) :=
  CallTy.of (fn := Try.f14) Try.func14 (n := 147) rfl rfl rfl (fun _ _ => by kernel_rfl) fun E W => by
  refine J.openAsk (s := 1) rfl (fun wa wl wc ta tl tc tb tq ia il ic ib iq htl hta hil2 hia => ?_)
  refine J.openRow (s := 2) rfl (fun ra rl rc rb ro hrl hra => ?_)
  subst htl hil2 hrl
  repeat refine J.seq ?_
  refine J.plain ?_
  refine JO.box rfl rfl fun b3 => ?_
  refine JO.box rfl rfl fun b4 => ?_
  refine JO.t (ob_assign rfl) rfl ?_
  refine JO.nil ?_
  repeat (first | refine JX.next ?_ | refine JX.normal_block ?_)
  refine J.sel [2, 3, 4] (.cons rfl (.cons rfl (.cons rfl .nil))) ?_
  repeat refine J.seq ?_
  refine J.plain ?_
  refine JO.t (ob_call rfl (c_law18_awake) .nil) rfl ?_
  refine JO.t (ob_not rfl) rfl ?_
  refine JO.nil ?_
  repeat (first | refine JX.next ?_ | refine JX.normal_block ?_)
  refine J.sel [2, 3, 4, 18] (.cons rfl (.cons rfl (.cons rfl (.cons rfl .nil)))) ?_
  repeat refine J.seq ?_
  refine J.cond rfl (fun ht18 => ?_) (fun ht18 => ?_)
  ·
    try simp only [decide_eq_true_eq, decide_eq_false_iff_not] at ht18
    repeat refine J.seq ?_
    refine J.plain ?_
    refine JO.t (ob_assign rfl) rfl ?_
    refine JO.nil ?_
    repeat (first | refine JX.next ?_ | refine JX.normal_block ?_)
    refine J.sel [6] (.cons rfl .nil) ?_
    repeat refine J.seq ?_
    refine J.ret ?_
    repeat (first | refine JX.ret_pass ?_ | refine JX.ret_block ?_)
    exact JX.ret1is rfl rfl (by simp at ht18)
  ·
    try simp only [decide_eq_true_eq, decide_eq_false_iff_not] at ht18
    refine J.skip ?_
    repeat (first | refine JX.next ?_ | refine JX.normal_block ?_)
    repeat refine J.seq ?_
    refine J.plain ?_
    refine JO.t (ob_fieldAddr fo_cadastrelaw18_Ask_1 rfl) rfl ?_
    refine JO.t (ob_ldN (cs := [_, _]) sz_api_Table rfl rfl rfl) rfl ?_
    refine JO.t (ob_call rfl (c_law18_columns nm cols hl) (.sub rfl (Sub.tab (by repeat (first | exact List.mem_cons_self | apply List.mem_cons_of_mem))) .nil)) rfl ?_
    refine JO.t (ob_move rfl) rfl ?_
    refine JO.t (ob_extract0 rfl) rfl ?_
    refine JO.t (ob_extract1 rfl) rfl ?_
    refine JO.t (ob_assign rfl) rfl ?_
    refine JO.t (ob_assign rfl) rfl ?_
    refine JO.nil ?_
    repeat (first | refine JX.next ?_ | refine JX.normal_block ?_)
    refine J.sel [2, 3, 4, 7, 8] (.cons rfl (.cons rfl (.cons rfl (.cons rfl (.cons rfl .nil))))) ?_
    refine J.openSl (s := 7) rfl (fun la ll lc lb lo hll hla => ?_)
    subst hll
    repeat refine J.seq ?_
    refine J.plain ?_
    refine JO.t (ob_ldEx sz_api_Expr rfl) rfl ?_
    refine JO.t (ob_move rfl) rfl ?_
    refine JO.t (ob_call rfl (bindOK (colsF nm cols).1 (by have := colsF_le nm cols; omega) x) (.one rfl (.sub rfl (Sub.slFact (by repeat (first | exact List.mem_cons_self | apply List.mem_cons_of_mem))) .nil))) rfl ?_
    refine JO.t (ob_move rfl) rfl ?_
    refine JO.t (ob_extract30 rfl) rfl ?_
    refine JO.openA (s := 29) rfl (fun ka kl kc kb ko hkl hka => ?_)
    subst hkl
    refine JO.t (ob_extract31 rfl) rfl ?_
    refine JO.t (ob_extract32 rfl) rfl ?_
    refine JO.alloc zo_api_Expr rfl fun b9 => ?_
    refine JO.m (obm_store rfl rfl (by repeat (first | exact .here | apply Upd.there)) (by first | exact cnt_is rfl rfl | exact cnt_ex) (by first | exact cnt_is rfl rfl | exact cnt_ex | exact cnt_aggO) ss_api_Expr) (by rfl) ?_
    refine JO.t (ob_assign rfl) rfl ?_
    refine JO.t (ob_assign rfl) rfl ?_
    refine JO.nil ?_
    repeat (first | refine JX.next ?_ | refine JX.normal_block ?_)
    refine J.sel [2, 4, 7, 8, 9, 10, 11] (.cons rfl (.cons rfl (.cons rfl (.cons rfl (.cons rfl (.cons rfl (.cons rfl .nil))))))) ?_
    repeat refine J.seq ?_
    refine J.reg0 hmx (by kernel_rfl) (by kernel_rfl) ?_
    refine RT.t (ob_move rfl) ?_
    refine RT.t (ob_not rfl) ?_
    refine RT.t (ob_move rfl) ?_
    refine RT.g rfl rfl rfl (fun hg => ob_move (.inl rfl)) ?_
    refine RT.g rfl rfl rfl (fun hg => ob_neq (.inr ⟨_, rfl, fun h => h⟩) (.inl rfl)) ?_
    refine RT.t (ob_pickOr rfl rfl rfl id) ?_
    refine RT.t (ob_move rfl) ?_
    refine RT.g rfl rfl rfl (fun hg => ob_move (.inl rfl)) ?_
    refine RT.g rfl rfl rfl (fun hg => ob_neq (.inr ⟨_, rfl, fun h => h⟩) (.inl rfl)) ?_
    refine RT.g rfl rfl rfl (fun hg => ob_move (.inr ⟨_, rfl, fun h => h⟩)) ?_
    refine RT.gg rfl rfl rfl (fun hg => (ob_move (.inl rfl))) ?_
    refine RT.gg rfl rfl rfl (fun hg => (ob_neq (.inr ⟨_, rfl, fun h => h⟩) (.inl rfl))) ?_
    refine RT.g rfl rfl rfl (fun hg => ob_pickAnd (.inr ⟨_, rfl, fun h => h⟩) (.inl rfl) (.inl rfl) (fun h => ⟨hg, h⟩)) ?_
    refine RT.t (ob_pickOr rfl rfl rfl id) ?_
    refine RT.t (ob_move rfl) ?_
    refine RT.g rfl rfl rfl (fun hg => ob_move (.inl rfl)) ?_
    refine RT.g rfl rfl rfl (fun hg => ob_len un_sl_api_Value (.inr ⟨_, rfl, fun h => h⟩)) ?_
    refine RT.g rfl rfl rfl (fun hg => ob_move (.inl rfl)) ?_
    refine RT.g rfl rfl rfl (fun hg => ob_len un_sl_bind_Col (.inr ⟨_, rfl, fun h => h⟩)) ?_
    refine RT.g rfl rfl rfl (fun hg => ob_neq (.inr ⟨_, rfl, fun h => h⟩) (.inr ⟨_, rfl, fun h => h⟩)) ?_
    refine RT.t (ob_pickOr rfl rfl rfl id) ?_
    refine RT.t (ob_move rfl) ?_
    refine RT.g rfl rfl rfl (fun hg => ob_move (.inl rfl)) ?_
    refine RT.g rfl rfl rfl (fun hg => ob_call (.inl rfl) (c_law18_right vals (by omega)) (.sub (.inr ⟨_, rfl, fun h => h⟩) (Sub.rowF (by repeat (first | exact List.mem_cons_self | apply List.mem_cons_of_mem))) .nil)) ?_
    refine RT.g rfl rfl rfl (fun hg => ob_not (.inr ⟨_, rfl, fun h => h⟩)) ?_
    refine RT.t (ob_pickOr rfl rfl rfl id) ?_
    refine RT.nil ?_
    refine FinS.nil0 ?_
    repeat (first | refine JX.next ?_ | refine JX.normal_block ?_)
    refine J.sel [2, 4, 7, 9, 57] (.cons rfl (.cons rfl (.cons rfl (.cons rfl (.cons rfl .nil))))) ?_
    repeat refine J.seq ?_
    refine J.cond rfl (fun ht57 => ?_) (fun ht57 => ?_)
    ·
      try simp only [decide_eq_true_eq, decide_eq_false_iff_not] at ht57
      repeat refine J.seq ?_
      refine J.plain ?_
      refine JO.t (ob_assign rfl) rfl ?_
      refine JO.nil ?_
      repeat (first | refine JX.next ?_ | refine JX.normal_block ?_)
      refine J.sel [6] (.cons rfl .nil) ?_
      repeat refine J.seq ?_
      refine J.ret ?_
      repeat (first | refine JX.ret_pass ?_ | refine JX.ret_block ?_)
      exact JX.ret1is rfl rfl (by rfl)
    ·
      try simp only [decide_eq_true_eq, decide_eq_false_iff_not] at ht57
      refine J.skip ?_
      repeat (first | refine JX.next ?_ | refine JX.normal_block ?_)
      have hvc : vals.length = (colsF nm cols).1.length := by have h57 := ht57; simp only [Bool.or_eq_false_iff, bne_eq_false_iff_eq] at h57; omega
      repeat refine J.seq ?_
      refine J.plain ?_
      refine JO.t (ob_assign rfl) rfl ?_
      refine JO.nil ?_
      repeat (first | refine JX.next ?_ | refine JX.normal_block ?_)
      refine J.sel [2, 4, 7, 9, 12] (.cons rfl (.cons rfl (.cons rfl (.cons rfl (.cons rfl .nil))))) ?_
      repeat refine J.seq ?_
      refine J.block ?_
      repeat refine J.seq ?_
      refine J.loopF (α := Nat) (fun i => [(2, _), (4, _), (7, _), (9, _), (12, .is (.int .i64 (i : Nat)))]) (fun i => i ≤ vals.length ∧ ∀ j, j < i → badAt (colsF nm cols).1 vals j = false) (fun i => vals.length - i) 0 [2, 4, 7, 9, 12] (.cons rfl (.cons rfl (.cons rfl (.cons rfl (.cons rfl .nil))))) ⟨by omega, fun j h => absurd h (by omega)⟩ fun i ⟨hi, hb⟩ => ?_
      repeat refine J.seq ?_
      refine J.plain ?_
      refine JO.t (ob_move rfl) rfl ?_
      refine JO.t (ob_move rfl) rfl ?_
      refine JO.t (ob_len un_sl_api_Value rfl) rfl ?_
      refine JO.t (ob_lss rfl rfl) rfl ?_
      refine JO.nil ?_
      repeat (first | refine JX.next ?_ | refine JX.normal_block ?_)
      refine J.sel [2, 4, 7, 9, 12, 61] (.cons rfl (.cons rfl (.cons rfl (.cons rfl (.cons rfl (.cons rfl .nil)))))) ?_
      repeat refine J.seq ?_
      refine J.cond rfl (fun ht61 => ?_) (fun ht61 => ?_)
      ·
        try simp only [decide_eq_true_eq, decide_eq_false_iff_not] at ht61
        refine J.skip ?_
        repeat (first | refine JX.next ?_ | refine JX.normal_block ?_)
        repeat refine J.seq ?_
        refine J.block ?_
        repeat refine J.seq ?_
        refine J.reg0 hmx (by kernel_rfl) (by kernel_rfl) ?_
        refine RT.t (ob_move rfl) ?_
        refine RT.t (ob_move rfl) ?_
        refine RT.t (ob_indexAddr el_sl_api_Value rfl (hra (by omega)) rfl (by omega) (by omega)) ?_
        refine RT.t (ob_fieldAddr fo_api_Value_0 rfl) ?_
        refine RT.t (ob_loadValF (i := i) (j := 0) (v := vals.getD i zero3) (vals := vals) (len := vals.length) sz_int rfl (by repeat (first | exact List.mem_cons_self | apply List.mem_cons_of_mem)) (hra (by omega)) (vals_get (by omega)) (by omega) rfl) ?_
        refine RT.t (ob_neq rfl rfl) ?_
        refine RT.t (ob_move rfl) ?_
        refine RT.g rfl rfl rfl (fun hg => ob_move (.inl rfl)) ?_
        refine RT.g rfl rfl rfl (fun hg => ob_move (.inl rfl)) ?_
        refine RT.g rfl rfl rfl (fun hg => ob_indexAddr el_sl_api_Value (.inr ⟨_, rfl, fun h => h⟩) (hra (by omega)) (.inr ⟨_, rfl, fun h => h⟩) (by omega) (by omega)) ?_
        refine RT.g rfl rfl rfl (fun hg => ob_fieldAddr fo_api_Value_0 (.inr ⟨_, rfl, fun h => h⟩)) ?_
        refine RT.g rfl rfl rfl (fun hg => ob_loadValF (i := i) (j := 0) (v := vals.getD i zero3) (vals := vals) (len := vals.length) sz_int (.inr ⟨_, rfl, fun h => h⟩) (by repeat (first | exact List.mem_cons_self | apply List.mem_cons_of_mem)) (hra (by omega)) (vals_get (by omega)) (by omega) rfl) ?_
        refine RT.g rfl rfl rfl (fun hg => ob_move (.inl rfl)) ?_
        refine RT.g rfl rfl rfl (fun hg => ob_move (.inl rfl)) ?_
        refine RT.g rfl rfl rfl (fun hg => ob_indexAddr el_sl_bind_Col (.inr ⟨_, rfl, fun h => h⟩) (hla (by omega)) (.inr ⟨_, rfl, fun h => h⟩) (by omega) (by omega)) ?_
        refine RT.g rfl rfl rfl (fun hg => ob_fieldAddr fo_bind_Col_2 (.inr ⟨_, rfl, fun h => h⟩)) ?_
        refine RT.g rfl rfl rfl (fun hg => ob_loadG1 (enc := C3.cells) (sz := 3) (len := (colsF nm cols).1.length) (i := i) (j := 2) (y := (colsF nm cols).1.getD i c3D) sz_int (.inr ⟨_, rfl, fun h => h⟩) (by repeat (first | exact List.mem_cons_self | apply List.mem_cons_of_mem)) (hla (by omega)) (c3_get' (by omega)) (by omega) rfl) ?_
        refine RT.g rfl rfl rfl (fun hg => ob_neq (.inr ⟨_, rfl, fun h => h⟩) (.inr ⟨_, rfl, fun h => h⟩)) ?_
        refine RT.t (ob_pickAnd rfl rfl rfl id) ?_
        refine RT.t (ob_move rfl) ?_
        refine RT.g rfl rfl rfl (fun hg => ob_move (.inl rfl)) ?_
        refine RT.g rfl rfl rfl (fun hg => ob_move (.inl rfl)) ?_
        refine RT.g rfl rfl rfl (fun hg => ob_indexAddr el_sl_api_Value (.inr ⟨_, rfl, fun h => h⟩) (hra (by omega)) (.inr ⟨_, rfl, fun h => h⟩) (by omega) (by omega)) ?_
        refine RT.g rfl rfl rfl (fun hg => ob_fieldAddr fo_api_Value_2 (.inr ⟨_, rfl, fun h => h⟩)) ?_
        refine RT.g rfl rfl rfl (fun hg => ob_loadValF (i := i) (j := 2) (v := vals.getD i zero3) (vals := vals) (len := vals.length) sz_string (.inr ⟨_, rfl, fun h => h⟩) (by repeat (first | exact List.mem_cons_self | apply List.mem_cons_of_mem)) (hra (by omega)) (vals_get (by omega)) (by omega) rfl) ?_
        refine RT.g rfl rfl rfl (fun hg => ob_slen un_string (.inr ⟨_, rfl, fun h => h⟩)) ?_
        refine RT.g rfl rfl rfl (fun hg => ob_gtr (.inr ⟨_, rfl, fun h => h⟩) (.inl rfl)) ?_
        refine RT.t (ob_pickOr rfl rfl rfl id) ?_
        refine RT.nil ?_
        refine FinS.nil0 ?_
        repeat (first | refine JX.next ?_ | refine JX.normal_block ?_)
        refine J.sel [2, 4, 7, 9, 12, 91] (.cons rfl (.cons rfl (.cons rfl (.cons rfl (.cons rfl (.cons rfl .nil)))))) ?_
        repeat refine J.seq ?_
        refine J.cond rfl (fun ht91 => ?_) (fun ht91 => ?_)
        ·
          try simp only [decide_eq_true_eq, decide_eq_false_iff_not] at ht91
          repeat refine J.seq ?_
          refine J.plain ?_
          refine JO.t (ob_assign rfl) rfl ?_
          refine JO.nil ?_
          repeat (first | refine JX.next ?_ | refine JX.normal_block ?_)
          refine J.sel [6] (.cons rfl .nil) ?_
          repeat refine J.seq ?_
          refine J.ret ?_
          repeat (first | refine JX.ret_pass ?_ | refine JX.ret_block ?_)
          exact JX.ret1is rfl rfl (by rfl)
        ·
          try simp only [decide_eq_true_eq, decide_eq_false_iff_not] at ht91
          refine J.skip ?_
          repeat (first | refine JX.next ?_ | refine JX.normal_block ?_)
          repeat refine J.seq ?_
          refine J.plain ?_
          refine JO.t (ob_move rfl) rfl ?_
          refine JO.t (ob_addc (cc := ((i + 1 : Nat) : Int)) rfl rfl (by omega) (by omega) (by omega)) rfl ?_
          refine JO.t (ob_assign rfl) rfl ?_
          refine JO.nil ?_
          repeat refine JX.normal_block ?_
          refine JX.roundS (i + 1) ?_ ?_ [2, 4, 7, 9, 12] ?_ ?_ ?_
          · exact ⟨by omega, fun j hj => (by rcases Nat.lt_or_eq_of_le (Nat.le_of_lt_succ hj) with h | h; exact hb j h; rw [h]; exact ht91)⟩
          · exact (by omega)
          · exact (.cons rfl (.cons rfl (.cons rfl (.cons rfl (.cons rfl .nil)))))
          · repeat (first | exact .slnil | apply List.Sublist.cons_cons | apply List.Sublist.cons)
          · repeat (first | exact .slnil | apply List.Sublist.cons_cons | apply List.Sublist.cons)
      ·
        try simp only [decide_eq_true_eq, decide_eq_false_iff_not] at ht61
        repeat refine J.seq ?_
        refine J.exit ?_
        repeat (first | refine JX.hit ?_ | refine JX.miss rfl ?_ | refine JX.exit_pass ?_)
        repeat (first | refine JX.next ?_ | refine JX.normal_block ?_)
        repeat refine J.seq ?_
        refine J.plain ?_
        refine JO.t (ob_ldN (cs := [_, _, _, _, _, _, _, _]) sz_api_Expr rfl rfl rfl) rfl ?_
        refine JO.t (ob_buildSlice (cs := [_, _, _, _, _, _, _, _]) sl_sl_api_Expr (by omega) (by omega) (.cons rfl .nil) rfl rfl rfl) rfl ?_
        refine JO.openNew (s := 94) rfl (fun bk => ?_)
        refine JO.fact (KidsR [(bindF (colsF nm cols).1 x).1] (some ⟨bk, 0, none⟩) 1) (fun E w hG _ => fun w1 hk => kids_heap (xs := [⟨(bindF (colsF nm cols).1 x).1, exCells (bindF (colsF nm cols).1 x).1.K (bindF (colsF nm cols).1 x).1.VK (bindF (colsF nm cols).1 x).1.VN (bindF (colsF nm cols).1 x).1.VS (bindF (colsF nm cols).1 x).1.TB (bindF (colsF nm cols).1 x).1.NM (bindF (colsF nm cols).1 x).1.SL ka (bindF (colsF nm cols).1 x).1.KS.length kc, rfl⟩]) rfl (hG _ List.mem_cons_self w1 hk) (fun p hp => by rcases List.mem_cons.1 hp with rfl | hp; exact hG (ExR (bindF (colsF nm cols).1 x).1 (.agg (exCells (bindF (colsF nm cols).1 x).1.K (bindF (colsF nm cols).1 x).1.VK (bindF (colsF nm cols).1 x).1.VN (bindF (colsF nm cols).1 x).1.VS (bindF (colsF nm cols).1 x).1.TB (bindF (colsF nm cols).1 x).1.NM (bindF (colsF nm cols).1 x).1.SL ka (bindF (colsF nm cols).1 x).1.KS.length kc).toArray)) (by repeat (first | exact List.mem_cons_self | apply List.mem_cons_of_mem)) w1 hk; cases hp)) ?_
        refine JO.t (ob_fieldAddr fo_cadastrelaw18_Ask_1 rfl) rfl ?_
        refine JO.t (ob_ldN (cs := [_, _]) sz_api_Table rfl rfl rfl) rfl ?_
        refine JO.t (ob_fieldAddr fo_cadastrelaw18_Ask_2 rfl) rfl ?_
        refine JO.t (ob_ld1 sz_sl_api_Index rfl rfl) rfl ?_
        refine JO.t (ob_call rfl (c_plan_Choose [(bindF (colsF nm cols).1 x).1] nm cols ixs hil (okGreat ixs cols (bindF (colsF nm cols).1 x).1)) (.sub rfl (Sub.exsF (by repeat (first | exact List.mem_cons_self | apply List.mem_cons_of_mem))) (.sub rfl (Sub.tab (by repeat (first | exact List.mem_cons_self | apply List.mem_cons_of_mem))) (.sub rfl (Sub.slFact (by repeat (first | exact List.mem_cons_self | apply List.mem_cons_of_mem))) .nil)))) rfl ?_
        refine JO.t (ob_move rfl) rfl ?_
        refine JO.t (ob_extract0 rfl) rfl ?_
        refine JO.t (ob_extract1 rfl) rfl ?_
        refine JO.alloc zo_api_Read rfl fun b13 => ?_
        refine JO.m (obm_store rfl rfl (by repeat (first | exact .here | apply Upd.there)) (by first | exact cnt_is rfl rfl | exact cnt_ex) (by first | exact cnt_is rfl rfl | exact cnt_ex | exact cnt_aggO) ss_api_Read) (by rfl) ?_
        refine JO.t (ob_assign rfl) rfl ?_
        refine JO.nil ?_
        repeat (first | refine JX.next ?_ | refine JX.normal_block ?_)
        refine J.sel [2, 4, 9, 13, 14] (.cons rfl (.cons rfl (.cons rfl (.cons rfl (.cons rfl .nil))))) ?_
        repeat refine J.seq ?_
        refine J.plain ?_
        refine JO.t (ob_ldN (cs := [_, _, _, _, _, _, _, _]) sz_api_Read rfl rfl rfl) rfl ?_
        refine JO.t (ob_move rfl) rfl ?_
        refine JO.t (ob_call rfl (c_plan_Covers (chooseF [(bindF (colsF nm cols).1 x).1] nm cols ixs).1 vals) (.one rfl (.sub rfl (Sub.rowF (by repeat (first | exact List.mem_cons_self | apply List.mem_cons_of_mem))) .nil))) rfl ?_
        refine JO.nil ?_
        repeat (first | refine JX.next ?_ | refine JX.normal_block ?_)
        refine J.sel [2, 4, 9, 13, 14, 104] (.cons rfl (.cons rfl (.cons rfl (.cons rfl (.cons rfl (.cons rfl .nil)))))) ?_
        repeat refine J.seq ?_
        refine J.cond rfl (fun ht104 => ?_) (fun ht104 => ?_)
        ·
          try simp only [decide_eq_true_eq, decide_eq_false_iff_not] at ht104
          repeat refine J.seq ?_
          refine J.reg0 hmx (by kernel_rfl) (by kernel_rfl) ?_
          refine RT.t (ob_move rfl) ?_
          refine RT.t (ob_geq rfl rfl) ?_
          refine RT.t (ob_move rfl) ?_
          refine RT.g rfl rfl rfl (fun hg => ob_fieldAddr fo_api_Read_1 (.inl rfl)) ?_
          refine RT.g rfl rfl rfl (fun hg => ob_ld1 sz_int (.inr ⟨_, rfl, fun h => h⟩) rfl) ?_
          refine RT.g rfl rfl rfl (fun hg => ob_eql (.inr ⟨_, rfl, fun h => h⟩) (.inl rfl)) ?_
          refine RT.t (ob_pickOr rfl rfl rfl id) ?_
          refine RT.t (ob_assign rfl) ?_
          refine RT.nil ?_
          refine FinS.nil0 ?_
          repeat (first | refine JX.next ?_ | refine JX.normal_block ?_)
          refine J.sel [6] (.cons rfl .nil) ?_
          repeat refine J.seq ?_
          refine J.ret ?_
          repeat (first | refine JX.ret_pass ?_ | refine JX.ret_block ?_)
          exact JX.ret1is rfl rfl (by rw [law_covers1])
        ·
          try simp only [decide_eq_true_eq, decide_eq_false_iff_not] at ht104
          refine J.skip ?_
          repeat (first | refine JX.next ?_ | refine JX.normal_block ?_)
          repeat refine J.seq ?_
          refine J.plain ?_
          refine JO.t (ob_ldN (cs := [_, _, _, _, _, _, _, _]) sz_api_Expr rfl rfl rfl) rfl ?_
          refine JO.t (ob_move rfl) rfl ?_
          refine JO.t (ob_call rfl (c_expr_Eval vals (bindF (colsF nm cols).1 x).1) (.sub rfl (Sub.fact (by repeat (first | exact List.mem_cons_self | apply List.mem_cons_of_mem))) (.sub rfl (Sub.fact (by repeat (first | exact List.mem_cons_self | apply List.mem_cons_of_mem))) .nil))) rfl ?_
          refine JO.t (ob_move rfl) rfl ?_
          refine JO.t (ob_extract0 rfl) rfl ?_
          refine JO.t (ob_extract1 rfl) rfl ?_
          refine JO.alloc zo_api_Value rfl fun b15 => ?_
          refine JO.m (obm_store rfl rfl (by repeat (first | exact .here | apply Upd.there)) (by first | exact cnt_is rfl rfl | exact cnt_ex) (by first | exact cnt_is rfl rfl | exact cnt_ex | exact cnt_aggO) ss_api_Value) (by rfl) ?_
          refine JO.t (ob_assign rfl) rfl ?_
          refine JO.nil ?_
          repeat (first | refine JX.next ?_ | refine JX.normal_block ?_)
          refine J.sel [4, 13, 14, 15, 16] (.cons rfl (.cons rfl (.cons rfl (.cons rfl (.cons rfl .nil))))) ?_
          repeat refine J.seq ?_
          refine J.reg0 hmx (by kernel_rfl) (by kernel_rfl) ?_
          refine RT.t (ob_move rfl) ?_
          refine RT.t (ob_geq rfl rfl) ?_
          refine RT.t (ob_move rfl) ?_
          refine RT.g rfl rfl rfl (fun hg => ob_move (.inl rfl)) ?_
          refine RT.g rfl rfl rfl (fun hg => ob_fieldAddr fo_cadastrelaw18_Ask_2 (.inl rfl)) ?_
          refine RT.g rfl rfl rfl (fun hg => ob_ld1 sz_sl_api_Index (.inr ⟨_, rfl, fun h => h⟩) rfl) ?_
          refine RT.g rfl rfl rfl (fun hg => ob_len un_sl_api_Index (.inr ⟨_, rfl, fun h => h⟩)) ?_
          refine RT.g rfl rfl rfl (fun hg => ob_lss (.inr ⟨_, rfl, fun h => h⟩) (.inr ⟨_, rfl, fun h => h⟩)) ?_
          refine RT.t (ob_pickAnd rfl rfl rfl id) ?_
          refine RT.t (ob_move rfl) ?_
          refine RT.g rfl rfl rfl (fun hg => ob_fieldAddr fo_cadastrelaw18_Ask_2 (.inl rfl)) ?_
          refine RT.g rfl rfl rfl (fun hg => ob_ld1 sz_sl_api_Index (.inr ⟨_, rfl, fun h => h⟩) rfl) ?_
          refine RT.g rfl rfl rfl (fun hg => ob_move (.inl rfl)) ?_
          refine RT.g rfl rfl rfl (fun hg => ob_indexAddr el_sl_api_Index (.inr ⟨_, rfl, fun h => h⟩) (hia (by have h := hg; simp only [Bool.and_eq_true, decide_eq_true_eq] at h; omega)) (.inr ⟨_, rfl, fun h => h⟩) (by have h := hg; simp only [Bool.and_eq_true, decide_eq_true_eq] at h; omega) (by have h := hg; simp only [Bool.and_eq_true, decide_eq_true_eq] at h; omega)) ?_
          refine RT.g rfl rfl rfl (fun hg => ob_fieldAddr fo_api_Index_2 (.inr ⟨_, rfl, fun h => h⟩)) ?_
          refine RT.g rfl rfl rfl (fun hg => ob_loadG1 (enc := I4.cells) (sz := 4) (len := ixs.length) (i := (chooseF [(bindF (colsF nm cols).1 x).1] nm cols ixs).2.toNat) (j := 2) (y := ixs.getD (chooseF [(bindF (colsF nm cols).1 x).1] nm cols ixs).2.toNat i4D) sz_int (.inr ⟨_, rfl, fun h => h⟩) (by repeat (first | exact List.mem_cons_self | apply List.mem_cons_of_mem)) (hia (by have h := hg; simp only [Bool.and_eq_true, decide_eq_true_eq] at h; omega)) (i4_get (by have h := hg; simp only [Bool.and_eq_true, decide_eq_true_eq] at h; omega)) (by have h := hg; simp only [Bool.and_eq_true, decide_eq_true_eq] at h; omega) rfl) ?_
          refine RT.g rfl rfl rfl (fun hg => ob_fieldAddr fo_api_Read_1 (.inl rfl)) ?_
          refine RT.g rfl rfl rfl (fun hg => ob_ld1 sz_int (.inr ⟨_, rfl, fun h => h⟩) rfl) ?_
          refine RT.g rfl rfl rfl (fun hg => ob_eql (.inr ⟨_, rfl, fun h => h⟩) (.inr ⟨_, rfl, fun h => h⟩)) ?_
          refine RT.t (ob_pickAnd rfl rfl rfl id) ?_
          refine RT.t (ob_move rfl) ?_
          refine RT.g rfl rfl rfl (fun hg => ob_move (.inl rfl)) ?_
          refine RT.g rfl rfl rfl (fun hg => ob_eql (.inr ⟨_, rfl, fun h => h⟩) (.inl rfl)) ?_
          refine RT.t (ob_pickAnd rfl rfl rfl id) ?_
          refine RT.t (ob_move rfl) ?_
          refine RT.g rfl rfl rfl (fun hg => ob_ldN (cs := [_, _, _]) sz_api_Value (.inl rfl) rfl rfl) ?_
          refine RT.g rfl rfl rfl (fun hg => ob_build (cs := [_, _, _]) sh_api_Value (.cons (.inl rfl) .nil) rfl rfl) ?_
          refine RT.g rfl rfl rfl (fun hg => ob_veq veq_api_Value (.inr ⟨_, rfl, fun h => h⟩) (.inr ⟨_, rfl, fun h => h⟩)) ?_
          refine RT.t (ob_pickAnd rfl rfl rfl id) ?_
          refine RT.t (ob_assign rfl) ?_
          refine RT.nil ?_
          refine FinS.nil0 ?_
          repeat (first | refine JX.next ?_ | refine JX.normal_block ?_)
          refine J.sel [6] (.cons rfl .nil) ?_
          repeat refine J.seq ?_
          refine J.ret ?_
          repeat (first | refine JX.ret_pass ?_ | refine JX.ret_block ?_)
          exact JX.ret1is rfl rfl (congrArg Value.bool (law_last (covers_fits ht57 hr (fun j hj => hb j (by omega))) (bind_wf _ x (by have h57 := ht57; simp only [Bool.or_eq_false_iff, bne_eq_false_iff_eq] at h57; exact h57.1.1.1.2)) ht104))
end Go.Proofs.Ytjlojkchgfeenaa
