/- Reads that are wider: what the statement does. No condition. -/
import Derived.Test.YtjlojkchgfeenaaXPF
import Derived.Test.YtjlojkchgfeenaaXG3
set_option maxRecDepth 20000
namespace Go.Proofs.Ytjlojkchgfeenaa
open Go Go.Vc
theorem cov_all (t : ByteArray) (a b : V3) (vals : List V3) : coversF ⟨t, -1, a, b⟩ vals = true := by
  unfold coversF
  rw [if_pos (by simp)]
  rfl
theorem cov_out {r : Rd} {vals : List V3} (h : (decide (r.col < 0) || decide ((vals.length : Int) ≤ r.col)) = true) : coversF r vals = (r.col == -1) := by
  unfold coversF
  rw [if_pos h]
theorem cmpF_self (a : Int) : cmpF a a = 0 := by simp [cmpF]
theorem blF : ∀ l : List UInt8, Op.bytesLess l l = false
  | [] => rfl
  | a :: x => by simp [Op.bytesLess, blF x]
theorem scmp_self (s : ByteArray) : scmpF s s = 0 := by
  have h1 : slt s s = false := blF _
  have h2 : seq s s = true := by simp [seq]
  simp [scmpF, h1, h2]
theorem vcmp_self (v : V3) : vcmp v v = 0 := by simp [vcmp, vcmpF, orL, cmpF_self, scmp_self]
theorem vcmp_least {v : V3} (h : okR v = true) (h0 : ¬ v.k = 0) : vcmp zero3 v ≤ 0 := by
  have hk : 0 ≤ v.k := by
    unfold okR ok1F at h
    split at h
    · cases h
    · rename_i h1
      simp at h1
      omega
  have : cmpF 0 v.k = -1 := by simp [cmpF]; omega
  simp [vcmp, vcmpF, orL, zero3, this]
theorem all_get {vals : List V3} {i : Nat} (h : vals.all okR = true) (hi : i < vals.length) : okR (vals.getD i zero3) = true := by
  have := List.all_eq_true.1 h (vals.getD i zero3) (by simp [hi])
  exact this
theorem law_wide {r : Rd} {vals : List V3} (hok : vals.all okR = true) (h : (decide (r.col < 0) || decide ((vals.length : Int) ≤ r.col)) = false) :
    (((coversF ⟨r.t, r.col, v3at vals r.col, v3at vals r.col⟩ vals && ((!coversF r vals) || coversF ⟨r.t, r.col, zero3, r.hi⟩ vals)) && ((!((v3at vals r.col).k == 0)) || coversF r vals)) && (!coversF r (vals.take r.col.toNat))) = true := by
  have h2 := h
  simp only [Bool.or_eq_false_iff, decide_eq_false_iff_not] at h2
  have hr : okR (v3at vals r.col) = true := by unfold v3at; exact all_get hok (by omega)
  have e0 : coversF r (vals.take r.col.toNat) = false := by
    rw [cov_out (by simp; omega)]
    rw [beq_eq_false_iff_ne]
    omega
  rw [e0]
  have e1 : ∀ a b, coversF ⟨r.t, r.col, a, b⟩ vals = (((v3at vals r.col).k == 0) || (decide (vcmp a (v3at vals r.col) ≤ 0) && decide (vcmp (v3at vals r.col) b ≤ 0))) := fun a b => by
    unfold coversF
    rw [if_neg (by simpa using h2)]
  have e2 : coversF r vals = (((v3at vals r.col).k == 0) || (decide (vcmp r.lo (v3at vals r.col) ≤ 0) && decide (vcmp (v3at vals r.col) r.hi ≤ 0))) := e1 r.lo r.hi
  rw [e1 (v3at vals r.col) (v3at vals r.col), e1 zero3 r.hi, e2, vcmp_self]
  by_cases h0 : (v3at vals r.col).k = 0
  · simp [h0]
  · have := vcmp_least hr h0
    have h0' : ((v3at vals r.col).k == 0) = false := beq_eq_false_iff_ne.2 h0
    rw [h0']
    have h5 : decide (vcmp zero3 (v3at vals r.col) ≤ 0) = true := by simpa using this
    rw [h5]
    generalize decide (vcmp r.lo (v3at vals r.col) ≤ 0) = A
    generalize decide (vcmp (v3at vals r.col) r.hi ≤ 0) = B
    cases A <;> cases B <;> rfl
theorem c_law18_PlanWide (r : Rd) (lo hi : V3) (vals : List V3) (hl : vals.length ≤ 9223372036854775807) : CallTy Try.prog f_law18_PlanWide [.rep (WideR r lo hi vals)] (.is (.bool true)) :=
  CallTy.of (fn := Try.f13) Try.func13 (n := 121) rfl rfl rfl (fun _ _ => by kernel_rfl) fun E W => by
  refine J.openWide (s := 0) rfl (fun a len cap b o hlen ra hlc => ?_)
  subst hlen
  repeat refine J.seq ?_
  refine J.plain ?_
  refine JO.box rfl rfl fun b1 => ?_
  refine JO.t (ob_assign rfl) rfl ?_
  refine JO.nil ?_
  repeat (first | refine JX.next ?_ | refine JX.normal_block ?_)
  refine J.sel [1] (.cons rfl .nil) ?_
  repeat refine J.seq ?_
  refine J.plain ?_
  refine JO.t (ob_call rfl (c_law18_awake) .nil) rfl ?_
  refine JO.t (ob_not rfl) rfl ?_
  refine JO.nil ?_
  repeat (first | refine JX.next ?_ | refine JX.normal_block ?_)
  refine J.sel [1, 12] (.cons rfl (.cons rfl .nil)) ?_
  repeat refine J.seq ?_
  refine J.cond rfl (fun ht12 => ?_) (fun ht12 => ?_)
  ·
    try simp only [decide_eq_true_eq, decide_eq_false_iff_not] at ht12
    repeat refine J.seq ?_
    refine J.plain ?_
    refine JO.t (ob_assign rfl) rfl ?_
    refine JO.nil ?_
    repeat (first | refine JX.next ?_ | refine JX.normal_block ?_)
    refine J.sel [2] (.cons rfl .nil) ?_
    repeat refine J.seq ?_
    refine J.ret ?_
    repeat (first | refine JX.ret_pass ?_ | refine JX.ret_block ?_)
    exact JX.ret1is rfl rfl (by simp at ht12)
  ·
    try simp only [decide_eq_true_eq, decide_eq_false_iff_not] at ht12
    refine J.skip ?_
    repeat (first | refine JX.next ?_ | refine JX.normal_block ?_)
    repeat refine J.seq ?_
    refine J.plain ?_
    refine JO.t (ob_fieldAddr fo_cadastrelaw18_Wide_0 rfl) rfl ?_
    refine JO.t (ob_ldN (cs := [_, _, _, _, _, _, _, _]) sz_api_Read rfl rfl rfl) rfl ?_
    refine JO.alloc zo_api_Read rfl fun b3 => ?_
    refine JO.m (obm_store rfl rfl (by repeat (first | exact .here | apply Upd.there)) (by first | exact cnt_is rfl rfl | exact cnt_ex) (by first | exact cnt_is rfl rfl | exact cnt_ex | exact cnt_aggO) ss_api_Read) (by rfl) ?_
    refine JO.nil ?_
    repeat (first | refine JX.next ?_ | refine JX.normal_block ?_)
    refine J.sel [1, 3] (.cons rfl (.cons rfl .nil)) ?_
    repeat refine J.seq ?_
    refine J.plain ?_
    refine JO.t (ob_fieldAddr fo_cadastrelaw18_Wide_1 rfl) rfl ?_
    refine JO.t (ob_ldN (cs := [_, _, _]) sz_api_Value rfl rfl rfl) rfl ?_
    refine JO.alloc zo_api_Value rfl fun b4 => ?_
    refine JO.m (obm_store rfl rfl (by repeat (first | exact .here | apply Upd.there)) (by first | exact cnt_is rfl rfl | exact cnt_ex) (by first | exact cnt_is rfl rfl | exact cnt_ex | exact cnt_aggO) ss_api_Value) (by rfl) ?_
    refine JO.nil ?_
    repeat (first | refine JX.next ?_ | refine JX.normal_block ?_)
    refine J.sel [1, 3, 4] (.cons rfl (.cons rfl (.cons rfl .nil))) ?_
    repeat refine J.seq ?_
    refine J.plain ?_
    refine JO.t (ob_fieldAddr fo_cadastrelaw18_Wide_2 rfl) rfl ?_
    refine JO.t (ob_ldN (cs := [_, _, _]) sz_api_Value rfl rfl rfl) rfl ?_
    refine JO.alloc zo_api_Value rfl fun b5 => ?_
    refine JO.m (obm_store rfl rfl (by repeat (first | exact .here | apply Upd.there)) (by first | exact cnt_is rfl rfl | exact cnt_ex) (by first | exact cnt_is rfl rfl | exact cnt_ex | exact cnt_aggO) ss_api_Value) (by rfl) ?_
    refine JO.nil ?_
    repeat (first | refine JX.next ?_ | refine JX.normal_block ?_)
    refine J.sel [1, 3, 4, 5] (.cons rfl (.cons rfl (.cons rfl (.cons rfl .nil)))) ?_
    repeat refine J.seq ?_
    refine J.plain ?_
    refine JO.t (ob_fieldAddr fo_cadastrelaw18_Wide_3 rfl) rfl ?_
    refine JO.t (ob_ld1 sz_sl_api_Value rfl rfl) rfl ?_
    refine JO.t (ob_assign rfl) rfl ?_
    refine JO.nil ?_
    repeat (first | refine JX.next ?_ | refine JX.normal_block ?_)
    refine J.sel [3, 4, 5, 6] (.cons rfl (.cons rfl (.cons rfl (.cons rfl .nil)))) ?_
    repeat refine J.seq ?_
    refine J.reg0 hmx (by kernel_rfl) (by kernel_rfl) ?_
    refine RT.t (ob_move rfl) ?_
    refine RT.t (ob_call rfl (c_law18_right vals hl) (.sub rfl (Sub.rowF (by repeat (first | exact List.mem_cons_self | apply List.mem_cons_of_mem))) .nil)) ?_
    refine RT.t (ob_not rfl) ?_
    refine RT.t (ob_move rfl) ?_
    refine RT.g rfl rfl rfl (fun hg => ob_fieldAddr fo_api_Read_2 (.inl rfl)) ?_
    refine RT.g rfl rfl rfl (fun hg => ob_ldN (cs := [_, _, _]) sz_api_Value (.inr ⟨_, rfl, fun h => h⟩) rfl rfl) ?_
    refine RT.g rfl rfl rfl (fun hg => ob_fieldAddr fo_api_Read_3 (.inl rfl)) ?_
    refine RT.g rfl rfl rfl (fun hg => ob_ldN (cs := [_, _, _]) sz_api_Value (.inr ⟨_, rfl, fun h => h⟩) rfl rfl) ?_
    refine RT.g rfl rfl rfl (fun hg => ob_ldN (cs := [_, _, _]) sz_api_Value (.inl rfl) rfl rfl) ?_
    refine RT.g rfl rfl rfl (fun hg => ob_ldN (cs := [_, _, _]) sz_api_Value (.inl rfl) rfl rfl) ?_
    refine RT.g rfl rfl rfl (fun hg => ob_buildSlice (cs := [_, _, _, _, _, _, _, _, _, _, _, _]) sl_sl_api_Value (by omega) (by omega) (.cons (.inr ⟨_, rfl, fun h => h⟩) (.cons (.inr ⟨_, rfl, fun h => h⟩) (.cons (.inr ⟨_, rfl, fun h => h⟩) (.cons (.inr ⟨_, rfl, fun h => h⟩) .nil)))) rfl rfl rfl) ?_
    refine RT.g rfl rfl rfl (fun hg => ob_call (.inl rfl) (c_law18_right [r.lo, r.hi, lo, hi] (by simp)) (.sub (.inr ⟨_, rfl, fun h => h⟩) (Sub.newRow rfl rfl) .nil)) ?_
    refine RT.g rfl rfl rfl (fun hg => ob_not (.inr ⟨_, rfl, fun h => h⟩)) ?_
    refine RT.t (ob_pickOr rfl rfl rfl id) ?_
    refine RT.nil ?_
    refine FinS.nil0 ?_
    repeat (first | refine JX.next ?_ | refine JX.normal_block ?_)
    refine J.sel [3, 6, 34] (.cons rfl (.cons rfl (.cons rfl .nil))) ?_
    repeat refine J.seq ?_
    refine J.cond rfl (fun ht34 => ?_) (fun ht34 => ?_)
    ·
      try simp only [decide_eq_true_eq, decide_eq_false_iff_not] at ht34
      repeat refine J.seq ?_
      refine J.plain ?_
      refine JO.t (ob_assign rfl) rfl ?_
      refine JO.nil ?_
      repeat (first | refine JX.next ?_ | refine JX.normal_block ?_)
      refine J.sel [2] (.cons rfl .nil) ?_
      repeat refine J.seq ?_
      refine J.ret ?_
      repeat (first | refine JX.ret_pass ?_ | refine JX.ret_block ?_)
      exact JX.ret1is rfl rfl (by rfl)
    ·
      try simp only [decide_eq_true_eq, decide_eq_false_iff_not] at ht34
      refine J.skip ?_
      repeat (first | refine JX.next ?_ | refine JX.normal_block ?_)
      repeat refine J.seq ?_
      refine J.plain ?_
      refine JO.t (ob_fieldAddr fo_api_Read_0 rfl) rfl ?_
      refine JO.t (ob_ld1 sz_string rfl rfl) rfl ?_
      refine JO.t (ob_build (cs := [_, _, _, _, _, _, _, _]) sh_api_Read (.cons rfl (.cons rfl .nil)) rfl rfl) rfl ?_
      refine JO.alloc zo_api_Read rfl fun b7 => ?_
      refine JO.m (obm_store rfl rfl (by repeat (first | exact .here | apply Upd.there)) (by first | exact cnt_is rfl rfl | exact cnt_ex) (by first | exact cnt_is rfl rfl | exact cnt_ex | exact cnt_aggO) ss_api_Read) (by rfl) ?_
      refine JO.nil ?_
      repeat (first | refine JX.next ?_ | refine JX.normal_block ?_)
      refine J.sel [3, 6, 7] (.cons rfl (.cons rfl (.cons rfl .nil))) ?_
      repeat refine J.seq ?_
      refine J.reg0 hmx (by kernel_rfl) (by kernel_rfl) ?_
      refine RT.t (ob_ldN (cs := [_, _, _, _, _, _, _, _]) sz_api_Read rfl rfl rfl) ?_
      refine RT.t (ob_move rfl) ?_
      refine RT.t (ob_call rfl (c_plan_Covers ⟨r.t, -1, zero3, zero3⟩ vals) (.one rfl (.sub rfl (Sub.rowF (by repeat (first | exact List.mem_cons_self | apply List.mem_cons_of_mem))) .nil))) ?_
      refine RT.t (ob_not rfl) ?_
      refine RT.t (ob_move rfl) ?_
      refine RT.g rfl rfl rfl (fun hg => ob_ldN (cs := [_, _, _, _, _, _, _, _]) sz_api_Read (.inl rfl) rfl rfl) ?_
      refine RT.g rfl rfl rfl (fun hg => ob_call (.inl rfl) (c_plan_Covers ⟨r.t, -1, zero3, zero3⟩ []) (.one (.inr ⟨_, rfl, fun h => h⟩) (.sub (.inl rfl) (Sub.rowNil) .nil))) ?_
      refine RT.g rfl rfl rfl (fun hg => ob_not (.inr ⟨_, rfl, fun h => h⟩)) ?_
      refine RT.t (ob_pickOr rfl rfl rfl id) ?_
      refine RT.nil ?_
      refine FinS.nil0 ?_
      repeat (first | refine JX.next ?_ | refine JX.normal_block ?_)
      refine J.sel [3, 6, 46] (.cons rfl (.cons rfl (.cons rfl .nil))) ?_
      repeat refine J.seq ?_
      refine J.cond rfl (fun ht46 => ?_) (fun ht46 => ?_)
      ·
        try simp only [decide_eq_true_eq, decide_eq_false_iff_not] at ht46
        repeat refine J.seq ?_
        refine J.plain ?_
        refine JO.t (ob_assign rfl) rfl ?_
        refine JO.nil ?_
        repeat (first | refine JX.next ?_ | refine JX.normal_block ?_)
        refine J.sel [2] (.cons rfl .nil) ?_
        repeat refine J.seq ?_
        refine J.ret ?_
        repeat (first | refine JX.ret_pass ?_ | refine JX.ret_block ?_)
        exact JX.ret1is rfl rfl (by rw [cov_all, cov_all] at ht46; simp at ht46)
      ·
        try simp only [decide_eq_true_eq, decide_eq_false_iff_not] at ht46
        refine J.skip ?_
        repeat (first | refine JX.next ?_ | refine JX.normal_block ?_)
        repeat refine J.seq ?_
        refine J.reg0 hmx (by kernel_rfl) (by kernel_rfl) ?_
        refine RT.t (ob_fieldAddr fo_api_Read_1 rfl) ?_
        refine RT.t (ob_ld1 sz_int rfl rfl) ?_
        refine RT.t (ob_lss rfl rfl) ?_
        refine RT.t (ob_move rfl) ?_
        refine RT.g rfl rfl rfl (fun hg => ob_fieldAddr fo_api_Read_1 (.inl rfl)) ?_
        refine RT.g rfl rfl rfl (fun hg => ob_ld1 sz_int (.inr ⟨_, rfl, fun h => h⟩) rfl) ?_
        refine RT.g rfl rfl rfl (fun hg => ob_move (.inl rfl)) ?_
        refine RT.g rfl rfl rfl (fun hg => ob_len un_sl_api_Value (.inr ⟨_, rfl, fun h => h⟩)) ?_
        refine RT.g rfl rfl rfl (fun hg => ob_geq (.inr ⟨_, rfl, fun h => h⟩) (.inr ⟨_, rfl, fun h => h⟩)) ?_
        refine RT.t (ob_pickOr rfl rfl rfl id) ?_
        refine RT.nil ?_
        refine FinS.nil0 ?_
        repeat (first | refine JX.next ?_ | refine JX.normal_block ?_)
        refine J.sel [3, 6, 56] (.cons rfl (.cons rfl (.cons rfl .nil))) ?_
        repeat refine J.seq ?_
        refine J.cond rfl (fun ht56 => ?_) (fun ht56 => ?_)
        ·
          try simp only [decide_eq_true_eq, decide_eq_false_iff_not] at ht56
          repeat refine J.seq ?_
          refine J.reg0 hmx (by kernel_rfl) (by kernel_rfl) ?_
          refine RT.t (ob_ldN (cs := [_, _, _, _, _, _, _, _]) sz_api_Read rfl rfl rfl) ?_
          refine RT.t (ob_move rfl) ?_
          refine RT.t (ob_call rfl (c_plan_Covers r vals) (.one rfl (.sub rfl (Sub.rowF (by repeat (first | exact List.mem_cons_self | apply List.mem_cons_of_mem))) .nil))) ?_
          refine RT.t (ob_fieldAddr fo_api_Read_1 rfl) ?_
          refine RT.t (ob_ld1 sz_int rfl rfl) ?_
          refine RT.t (ob_eql rfl rfl) ?_
          refine RT.t (ob_beql un_bool rfl rfl) ?_
          refine RT.t (ob_assign rfl) ?_
          refine RT.nil ?_
          refine FinS.nil0 ?_
          repeat (first | refine JX.next ?_ | refine JX.normal_block ?_)
          refine J.sel [2] (.cons rfl .nil) ?_
          repeat refine J.seq ?_
          refine J.ret ?_
          repeat (first | refine JX.ret_pass ?_ | refine JX.ret_block ?_)
          exact JX.ret1is rfl rfl (by rw [cov_out ht56]; simp)
        ·
          try simp only [decide_eq_true_eq, decide_eq_false_iff_not] at ht56
          refine J.skip ?_
          repeat (first | refine JX.next ?_ | refine JX.normal_block ?_)
          repeat refine J.seq ?_
          refine J.reg0 hmx (by kernel_rfl) (by kernel_rfl) ?_
          refine RT.t (ob_fieldAddr fo_api_Read_0 rfl) ?_
          refine RT.t (ob_ld1 sz_string rfl rfl) ?_
          refine RT.t (ob_fieldAddr fo_api_Read_1 rfl) ?_
          refine RT.t (ob_ld1 sz_int rfl rfl) ?_
          refine RT.t (ob_move rfl) ?_
          refine RT.t (ob_fieldAddr fo_api_Read_1 rfl) ?_
          refine RT.t (ob_ld1 sz_int rfl rfl) ?_
          refine RT.t (ob_indexAddr el_sl_api_Value rfl (ra (by have h3 := ht56; simp only [Bool.or_eq_false_iff, decide_eq_false_iff_not] at h3; omega)) rfl (by have h3 := ht56; simp only [Bool.or_eq_false_iff, decide_eq_false_iff_not] at h3; omega) (by have h3 := ht56; simp only [Bool.or_eq_false_iff, decide_eq_false_iff_not] at h3; omega)) ?_
          refine RT.t (ob_loadVal (i := r.col.toNat) (v := v3at vals r.col) (vals := vals) (len := vals.length) sz_api_Value rfl (by repeat (first | exact List.mem_cons_self | apply List.mem_cons_of_mem)) (ra (by have h3 := ht56; simp only [Bool.or_eq_false_iff, decide_eq_false_iff_not] at h3; omega)) (v3at_get (by have h3 := ht56; simp only [Bool.or_eq_false_iff, decide_eq_false_iff_not] at h3; omega) (by have h3 := ht56; simp only [Bool.or_eq_false_iff, decide_eq_false_iff_not] at h3; omega)) (by have h3 := ht56; simp only [Bool.or_eq_false_iff, decide_eq_false_iff_not] at h3; omega)) ?_
          refine RT.t (ob_move rfl) ?_
          refine RT.t (ob_fieldAddr fo_api_Read_1 rfl) ?_
          refine RT.t (ob_ld1 sz_int rfl rfl) ?_
          refine RT.t (ob_indexAddr el_sl_api_Value rfl (ra (by have h3 := ht56; simp only [Bool.or_eq_false_iff, decide_eq_false_iff_not] at h3; omega)) rfl (by have h3 := ht56; simp only [Bool.or_eq_false_iff, decide_eq_false_iff_not] at h3; omega) (by have h3 := ht56; simp only [Bool.or_eq_false_iff, decide_eq_false_iff_not] at h3; omega)) ?_
          refine RT.t (ob_loadVal (i := r.col.toNat) (v := v3at vals r.col) (vals := vals) (len := vals.length) sz_api_Value rfl (by repeat (first | exact List.mem_cons_self | apply List.mem_cons_of_mem)) (ra (by have h3 := ht56; simp only [Bool.or_eq_false_iff, decide_eq_false_iff_not] at h3; omega)) (v3at_get (by have h3 := ht56; simp only [Bool.or_eq_false_iff, decide_eq_false_iff_not] at h3; omega) (by have h3 := ht56; simp only [Bool.or_eq_false_iff, decide_eq_false_iff_not] at h3; omega)) (by have h3 := ht56; simp only [Bool.or_eq_false_iff, decide_eq_false_iff_not] at h3; omega)) ?_
          refine RT.t (ob_build (cs := [_, _, _, _, _, _, _, _]) sh_api_Read (.cons rfl (.cons rfl (.cons rfl (.cons rfl .nil)))) rfl rfl) ?_
          refine RT.n zc_api_Read ?_
          refine RT.s 15 rfl rfl rfl rfl (cnt_is rfl rfl) ss_api_Read (by simp) ?_
          refine RT.nil ?_
          refine FinS.cons fun b8 => ?_
          refine FinS.nil1 ?_
          repeat (first | refine JX.next ?_ | refine JX.normal_block ?_)
          refine J.sel [3, 6, 8] (.cons rfl (.cons rfl (.cons rfl .nil))) ?_
          repeat refine J.seq ?_
          refine J.plain ?_
          refine JO.t (ob_move rfl) rfl ?_
          refine JO.t (ob_fieldAddr fo_api_Read_1 rfl) rfl ?_
          refine JO.t (ob_ld1 sz_int rfl rfl) rfl ?_
          refine JO.t (ob_indexAddr el_sl_api_Value rfl (ra (by have h3 := ht56; simp only [Bool.or_eq_false_iff, decide_eq_false_iff_not] at h3; omega)) rfl (by have h3 := ht56; simp only [Bool.or_eq_false_iff, decide_eq_false_iff_not] at h3; omega) (by have h3 := ht56; simp only [Bool.or_eq_false_iff, decide_eq_false_iff_not] at h3; omega)) rfl ?_
          refine JO.t (ob_fieldAddr fo_api_Value_0 rfl) rfl ?_
          refine JO.t (ob_loadValF (i := r.col.toNat) (j := 0) (v := v3at vals r.col) (vals := vals) (len := vals.length) sz_int rfl (by repeat (first | exact List.mem_cons_self | apply List.mem_cons_of_mem)) (ra (by have h3 := ht56; simp only [Bool.or_eq_false_iff, decide_eq_false_iff_not] at h3; omega)) (v3at_get (by have h3 := ht56; simp only [Bool.or_eq_false_iff, decide_eq_false_iff_not] at h3; omega) (by have h3 := ht56; simp only [Bool.or_eq_false_iff, decide_eq_false_iff_not] at h3; omega)) (by have h3 := ht56; simp only [Bool.or_eq_false_iff, decide_eq_false_iff_not] at h3; omega) rfl) rfl ?_
          refine JO.t (ob_eql rfl rfl) rfl ?_
          refine JO.t (ob_assign rfl) rfl ?_
          refine JO.nil ?_
          repeat (first | refine JX.next ?_ | refine JX.normal_block ?_)
          refine J.sel [3, 6, 8, 9] (.cons rfl (.cons rfl (.cons rfl (.cons rfl .nil)))) ?_
          repeat refine J.seq ?_
          refine J.plain ?_
          refine JO.t (ob_ldN (cs := [_, _, _, _, _, _, _, _]) sz_api_Read rfl rfl rfl) rfl ?_
          refine JO.alloc zo_api_Read rfl fun b10 => ?_
          refine JO.m (obm_store rfl rfl (by repeat (first | exact .here | apply Upd.there)) (by first | exact cnt_is rfl rfl | exact cnt_ex) (by first | exact cnt_is rfl rfl | exact cnt_ex | exact cnt_aggO) ss_api_Read) (by rfl) ?_
          refine JO.nil ?_
          repeat (first | refine JX.next ?_ | refine JX.normal_block ?_)
          refine J.sel [3, 6, 8, 9, 10] (.cons rfl (.cons rfl (.cons rfl (.cons rfl (.cons rfl .nil))))) ?_
          repeat refine J.seq ?_
          refine J.plain ?_
          refine JO.t (ob_build (cs := [_, _, _]) sh_api_Value .nil rfl rfl) rfl ?_
          refine JO.t (ob_fieldAddr fo_api_Read_2 rfl) rfl ?_
          refine JO.m (obm_storeF (cs' := [_, _, _, _, _, _, _, _]) rfl rfl (by repeat (first | exact .here | apply Upd.there)) rfl rfl rfl rfl ss_api_Value) (by rfl) ?_
          refine JO.nil ?_
          repeat (first | refine JX.next ?_ | refine JX.normal_block ?_)
          refine J.sel [3, 6, 8, 9, 10] (.cons rfl (.cons rfl (.cons rfl (.cons rfl (.cons rfl .nil))))) ?_
          refine J.fact (RowR (vals.take r.col.toNat) a r.col.toNat) (fun E w hG _ => fun w1 hk => row_take (hG (RowR vals a vals.length) (by repeat (first | exact List.mem_cons_self | apply List.mem_cons_of_mem)) w1 hk) (by have h3 := ht56; simp only [Bool.or_eq_false_iff, decide_eq_false_iff_not] at h3; omega)) ?_
          repeat refine J.seq ?_
          refine J.reg0 hmx (by kernel_rfl) (by kernel_rfl) ?_
          refine RT.t (ob_ldN (cs := [_, _, _, _, _, _, _, _]) sz_api_Read rfl rfl rfl) ?_
          refine RT.t (ob_move rfl) ?_
          refine RT.t (ob_call rfl (c_plan_Covers ⟨r.t, r.col, v3at vals r.col, v3at vals r.col⟩ vals) (.one rfl (.sub rfl (Sub.rowF (by repeat (first | exact List.mem_cons_self | apply List.mem_cons_of_mem))) .nil))) ?_
          refine RT.t (ob_move rfl) ?_
          refine RT.g rfl rfl rfl (fun hg => ob_ldN (cs := [_, _, _, _, _, _, _, _]) sz_api_Read (.inl rfl) rfl rfl) ?_
          refine RT.g rfl rfl rfl (fun hg => ob_move (.inl rfl)) ?_
          refine RT.g rfl rfl rfl (fun hg => ob_call (.inl rfl) (c_plan_Covers r vals) (.one (.inr ⟨_, rfl, fun h => h⟩) (.sub (.inr ⟨_, rfl, fun h => h⟩) (Sub.rowF (by repeat (first | exact List.mem_cons_self | apply List.mem_cons_of_mem))) .nil))) ?_
          refine RT.g rfl rfl rfl (fun hg => ob_not (.inr ⟨_, rfl, fun h => h⟩)) ?_
          refine RT.g rfl rfl rfl (fun hg => ob_move (.inr ⟨_, rfl, fun h => h⟩)) ?_
          refine RT.gg rfl rfl rfl (fun hg => (ob_ldN (cs := [_, _, _, _, _, _, _, _]) sz_api_Read (.inl rfl) rfl rfl)) ?_
          refine RT.gg rfl rfl rfl (fun hg => (ob_move (.inl rfl))) ?_
          refine RT.gg rfl rfl rfl (fun hg => (ob_call (.inl rfl) (c_plan_Covers ⟨r.t, r.col, zero3, r.hi⟩ vals) (.one (.inr ⟨_, rfl, fun h => h⟩) (.sub (.inr ⟨_, rfl, fun h => h⟩) (Sub.rowF (by repeat (first | exact List.mem_cons_self | apply List.mem_cons_of_mem))) .nil)))) ?_
          refine RT.g rfl rfl rfl (fun hg => ob_pickOr (.inr ⟨_, rfl, fun h => h⟩) (.inl rfl) (.inl rfl) (fun h => ⟨hg, h⟩)) ?_
          refine RT.t (ob_pickAnd rfl rfl rfl id) ?_
          refine RT.t (ob_move rfl) ?_
          refine RT.g rfl rfl rfl (fun hg => ob_move (.inl rfl)) ?_
          refine RT.g rfl rfl rfl (fun hg => ob_not (.inr ⟨_, rfl, fun h => h⟩)) ?_
          refine RT.g rfl rfl rfl (fun hg => ob_move (.inr ⟨_, rfl, fun h => h⟩)) ?_
          refine RT.gg rfl rfl rfl (fun hg => (ob_ldN (cs := [_, _, _, _, _, _, _, _]) sz_api_Read (.inl rfl) rfl rfl)) ?_
          refine RT.gg rfl rfl rfl (fun hg => (ob_move (.inl rfl))) ?_
          refine RT.gg rfl rfl rfl (fun hg => (ob_call (.inl rfl) (c_plan_Covers r vals) (.one (.inr ⟨_, rfl, fun h => h⟩) (.sub (.inr ⟨_, rfl, fun h => h⟩) (Sub.rowF (by repeat (first | exact List.mem_cons_self | apply List.mem_cons_of_mem))) .nil)))) ?_
          refine RT.g rfl rfl rfl (fun hg => ob_pickOr (.inr ⟨_, rfl, fun h => h⟩) (.inl rfl) (.inl rfl) (fun h => ⟨hg, h⟩)) ?_
          refine RT.t (ob_pickAnd rfl rfl rfl id) ?_
          refine RT.t (ob_move rfl) ?_
          refine RT.g rfl rfl rfl (fun hg => ob_ldN (cs := [_, _, _, _, _, _, _, _]) sz_api_Read (.inl rfl) rfl rfl) ?_
          refine RT.g rfl rfl rfl (fun hg => ob_move (.inl rfl)) ?_
          refine RT.g rfl rfl rfl (fun hg => ob_fieldAddr fo_api_Read_1 (.inl rfl)) ?_
          refine RT.g rfl rfl rfl (fun hg => ob_ld1 sz_int (.inr ⟨_, rfl, fun h => h⟩) rfl) ?_
          refine RT.g rfl rfl rfl (fun hg => ob_sliceHi un_sl_api_Value el_sl_api_Value (.inr ⟨_, rfl, fun h => h⟩) (.inr ⟨_, rfl, fun h => h⟩) (by have h3 := ht56; simp only [Bool.or_eq_false_iff, decide_eq_false_iff_not] at h3; omega) (by have h3 := ht56; simp only [Bool.or_eq_false_iff, decide_eq_false_iff_not] at h3; omega)) ?_
          refine RT.g rfl rfl rfl (fun hg => ob_call (.inl rfl) (c_plan_Covers r (vals.take r.col.toNat)) (.one (.inr ⟨_, rfl, fun h => h⟩) (.sub (.inr ⟨_, rfl, fun h => h⟩) (Sub.rowF (by repeat (first | exact List.mem_cons_self | apply List.mem_cons_of_mem))) .nil))) ?_
          refine RT.g rfl rfl rfl (fun hg => ob_not (.inr ⟨_, rfl, fun h => h⟩)) ?_
          refine RT.t (ob_pickAnd rfl rfl rfl id) ?_
          refine RT.t (ob_assign rfl) ?_
          refine RT.nil ?_
          refine FinS.nil0 ?_
          repeat (first | refine JX.next ?_ | refine JX.normal_block ?_)
          refine J.sel [2] (.cons rfl .nil) ?_
          repeat refine J.seq ?_
          refine J.ret ?_
          repeat (first | refine JX.ret_pass ?_ | refine JX.ret_block ?_)
          exact JX.ret1is rfl rfl (congrArg Value.bool (law_wide (by have h34 := ht34; simp only [Bool.or_eq_false_iff, Bool.not_eq_false'] at h34; exact h34.1) ht56))
end Go.Proofs.Ytjlojkchgfeenaa
