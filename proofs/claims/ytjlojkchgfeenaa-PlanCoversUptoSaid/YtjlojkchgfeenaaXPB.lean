/- The question that an expression asks of a table. No condition. -/
import Derived.Test.YtjlojkchgfeenaaXPA
import Derived.Test.YtjlojkchgfeenaaXG3
set_option maxRecDepth 20000
namespace Go.Proofs.Ytjlojkchgfeenaa
open Go Go.Vc
theorem ask_no {cols : List C4} {kind : Int} {a : Ex} {v : V3 × Bool} (h : ((((((!v.2) || (a.K != 24)) || decide (0 < (a.KS.length : Int))) || decide (a.SL < 0)) || decide ((cols.length : Int) ≤ a.SL)) || ((cols.getD a.SL.toNat c4D).ty != v.1.k)) = true) : askF cols kind a v = (0, 0, zero3) := by
  unfold askF
  rw [if_pos h]
theorem ask_yes {cols : List C4} {kind : Int} {a : Ex} {v : V3 × Bool} (h : ((((((!v.2) || (a.K != 24)) || decide (0 < (a.KS.length : Int))) || decide (a.SL < 0)) || decide ((cols.length : Int) ≤ a.SL)) || ((cols.getD a.SL.toNat c4D).ty != v.1.k)) = false) : askF cols kind a v = (a.SL, kind, v.1) := by
  unfold askF
  rw [if_neg (by rw [h]; simp)]
theorem c_plan_question (x : Ex) (nm : ByteArray) (cols : List C4) : CallTy Try.prog f_plan_question [.rep (ExR x), .rep (TabR nm cols)] (.tup3 (.is (.int .i64 (questF cols x).1)) (.is (.int .i64 (questF cols x).2.1)) (.is (vv (questF cols x).2.2))) :=
  CallTy.of (fn := Try.f46) Try.func46 (n := 101) rfl rfl rfl (fun _ _ => by kernel_rfl) fun E W => by
  refine J.openTab (s := 1) rfl (fun ta tl tc tb to htl hta => ?_)
  subst htl
  repeat refine J.seq ?_
  refine J.plain ?_
  refine JO.box rfl rfl fun b2 => ?_
  refine JO.box rfl rfl fun b3 => ?_
  refine JO.t (ob_assign rfl) rfl ?_
  refine JO.t (ob_assign rfl) rfl ?_
  refine JO.alloc zo_api_Value rfl fun b6 => ?_
  refine JO.nil ?_
  repeat (first | refine JX.next ?_ | refine JX.normal_block ?_)
  refine J.sel [2, 3, 6] (.cons rfl (.cons rfl (.cons rfl .nil))) ?_
  repeat refine J.seq ?_
  refine J.block ?_
  repeat refine J.seq ?_
  refine J.loopG (α := Ex) (fun s => [(2, .is (.pointer (some ⟨b2, 0, none⟩))), (3, .is (.pointer (some ⟨b3, 0, none⟩))), (6, .is (.pointer (some ⟨b6, 0, none⟩)))]) (fun s => ⟨b6, ty_api_Value, .is (.agg [.int .i64 0, .int .i64 0, .string ⟨#[]⟩].toArray)⟩ :: ⟨b3, ty_api_Table, .is (.agg [.string nm, .slice ta cols.length tc].toArray)⟩ :: ⟨b2, ty_api_Expr, .rep (ExR s)⟩ :: []) (fun s => fun _ => True) (fun s => firstX s = firstX x) (fun s => SizeOf.sizeOf s) x [2, 3, 6] (.cons rfl (.cons rfl (.cons rfl .nil))) rfl (fun _ => trivial) rfl fun s hs => ?_
  try dsimp only
  try dsimp only at hs
  refine J.front b2 (by repeat (first | exact .here | apply Front.there)) ?_
  refine J.openOwnEK (fun a len cap b o hlen ha => ?_)
  subst hlen
  repeat refine J.seq ?_
  refine J.reg0 hmx (by kernel_rfl) (by kernel_rfl) ?_
  refine RT.t (ob_fieldAddr fo_api_Expr_0 rfl) ?_
  refine RT.t (ob_ld1 sz_int rfl rfl) ?_
  refine RT.t (ob_eql rfl rfl) ?_
  refine RT.t (ob_move rfl) ?_
  refine RT.g rfl rfl rfl (fun hg => ob_fieldAddr fo_api_Expr_5 (.inl rfl)) ?_
  refine RT.g rfl rfl rfl (fun hg => ob_ld1 sz_sl_api_Expr (.inr ⟨_, rfl, fun h => h⟩) rfl) ?_
  refine RT.g rfl rfl rfl (fun hg => ob_len un_sl_api_Expr (.inr ⟨_, rfl, fun h => h⟩)) ?_
  refine RT.g rfl rfl rfl (fun hg => ob_eql (.inr ⟨_, rfl, fun h => h⟩) (.inl rfl)) ?_
  refine RT.t (ob_pickAnd rfl rfl rfl id) ?_
  refine RT.nil ?_
  refine FinS.nil0 ?_
  repeat (first | refine JX.next ?_ | refine JX.normal_block ?_)
  refine J.sel [2, 3, 6, 20] (.cons rfl (.cons rfl (.cons rfl (.cons rfl .nil)))) ?_
  repeat refine J.seq ?_
  refine J.cond rfl (fun ht20 => ?_) (fun ht20 => ?_)
  ·
    try simp only [decide_eq_true_eq, decide_eq_false_iff_not] at ht20
    refine J.skip ?_
    repeat (first | refine JX.next ?_ | refine JX.normal_block ?_)
    repeat refine J.seq ?_
    refine J.block ?_
    repeat refine J.seq ?_
    refine J.plain ?_
    refine JO.t (ob_fieldAddr fo_api_Expr_5 rfl) rfl ?_
    refine JO.t (ob_ld1 sz_sl_api_Expr rfl rfl) rfl ?_
    refine JO.t (ob_indexAddr el_sl_api_Expr rfl (ha (by have h20 := ht20; simp at h20; omega)) rfl (by omega) (by have h20 := ht20; simp at h20; omega)) rfl ?_
    refine JO.t (ob_loadKid (i := 0) (len := s.KS.length) (kid := s.KS.getD 0 exD) sz_api_Expr rfl (by repeat (first | exact List.mem_cons_self | apply List.mem_cons_of_mem)) (ha (by have h20 := ht20; simp at h20; omega)) (kid_get (by have h20 := ht20; simp at h20; omega)) (by omega)) rfl ?_
    refine JO.m (obm_store rfl rfl (by repeat (first | exact .here | apply Upd.there)) (by first | exact cnt_is rfl rfl | exact cnt_ex) (by first | exact cnt_is rfl rfl | exact cnt_ex | exact cnt_aggO) ss_api_Expr) (by rfl) ?_
    refine JO.nil ?_
    repeat refine JX.normal_block ?_
    refine JX.roundG (x := s) (s.KS.getD 0 exD) ?_ ?_ [2, 3, 6] ?_ ?_ ?_ ?_
    · exact ((firstX_step ht20).1.trans hs)
    · exact (firstX_step ht20).2
    · exact (.cons rfl (.cons rfl (.cons rfl .nil)))
    · repeat (first | exact .all | exact .nil | refine Has.own (by repeat (first | exact .here | apply Tl.past | apply Tl.there)) ?_ | refine Has.cons (by repeat (first | exact .here | apply Pk.past | apply Pk.there)) ?_)
    · exact fun G hG => by repeat (first | exact hG | refine List.mem_cons_of_mem _ ?_)
    · exact fun _ _ _ => fun _ _ => trivial
  ·
    try simp only [decide_eq_true_eq, decide_eq_false_iff_not] at ht20
    repeat refine J.seq ?_
    refine J.exit ?_
    repeat (first | refine JX.hit ?_ | refine JX.miss rfl ?_ | refine JX.exit_pass ?_)
    repeat (first | refine JX.next ?_ | refine JX.normal_block ?_)
    have hse : s = firstX x := by rw [← hs]; exact (firstX_end ht20).symm
    subst hse
    repeat refine J.seq ?_
    refine J.reg0 hmx (by kernel_rfl) (by kernel_rfl) ?_
    refine RT.t (ob_fieldAddr fo_api_Expr_0 rfl) ?_
    refine RT.t (ob_ld1 sz_int rfl rfl) ?_
    refine RT.t (ob_call rfl (c_plan_turned _) (.one rfl .nil)) ?_
    refine RT.t (ob_eql rfl rfl) ?_
    refine RT.t (ob_move rfl) ?_
    refine RT.g rfl rfl rfl (fun hg => ob_fieldAddr fo_api_Expr_5 (.inl rfl)) ?_
    refine RT.g rfl rfl rfl (fun hg => ob_ld1 sz_sl_api_Expr (.inr ⟨_, rfl, fun h => h⟩) rfl) ?_
    refine RT.g rfl rfl rfl (fun hg => ob_len un_sl_api_Expr (.inr ⟨_, rfl, fun h => h⟩)) ?_
    refine RT.g rfl rfl rfl (fun hg => ob_neq (.inr ⟨_, rfl, fun h => h⟩) (.inl rfl)) ?_
    refine RT.t (ob_pickOr rfl rfl rfl id) ?_
    refine RT.nil ?_
    refine FinS.nil0 ?_
    repeat (first | refine JX.next ?_ | refine JX.normal_block ?_)
    refine J.sel [2, 3, 6, 34] (.cons rfl (.cons rfl (.cons rfl (.cons rfl .nil)))) ?_
    repeat refine J.seq ?_
    refine J.cond rfl (fun ht34 => ?_) (fun ht34 => ?_)
    ·
      try simp only [decide_eq_true_eq, decide_eq_false_iff_not] at ht34
      repeat refine J.seq ?_
      refine J.plain ?_
      refine JO.t (ob_build (cs := [_, _, _]) sh_api_Value .nil rfl rfl) rfl ?_
      refine JO.t (ob_assign rfl) rfl ?_
      refine JO.t (ob_assign rfl) rfl ?_
      refine JO.m (obm_store rfl rfl (by repeat (first | exact .here | apply Upd.there)) (by first | exact cnt_is rfl rfl | exact cnt_ex) (by first | exact cnt_is rfl rfl | exact cnt_ex | exact cnt_aggO) ss_api_Value) (by rfl) ?_
      refine JO.nil ?_
      repeat (first | refine JX.next ?_ | refine JX.normal_block ?_)
      refine J.sel [4, 5, 6] (.cons rfl (.cons rfl (.cons rfl .nil))) ?_
      repeat refine J.seq ?_
      refine J.ret ?_
      repeat (first | refine JX.ret_pass ?_ | refine JX.ret_block ?_)
      have hq : questF cols x = (0, 0, zero3) := by unfold questF; rw [if_pos ht34]
      exact JX.ret2Cis rfl rfl rfl rfl sz_api_Value HasOwn.mem rfl (by rw [hq]) (by rw [hq]) (by rw [hq]; try rfl)
    ·
      try simp only [decide_eq_true_eq, decide_eq_false_iff_not] at ht34
      refine J.skip ?_
      repeat (first | refine JX.next ?_ | refine JX.normal_block ?_)
      have hk2 : (firstX x).KS.length = 2 := by have h34 := ht34; simp at h34; omega
      repeat refine J.seq ?_
      refine J.reg0 hmx (by kernel_rfl) (by kernel_rfl) ?_
      refine RT.t (ob_fieldAddr fo_api_Expr_0 rfl) ?_
      refine RT.t (ob_ld1 sz_int rfl rfl) ?_
      refine RT.t (ob_fieldAddr fo_api_Expr_5 rfl) ?_
      refine RT.t (ob_ld1 sz_sl_api_Expr rfl rfl) ?_
      refine RT.t (ob_indexAddr el_sl_api_Expr rfl (ha (by omega)) rfl (by omega) (by omega)) ?_
      refine RT.t (ob_loadKid (i := 0) (len := (firstX x).KS.length) (kid := ((firstX x).KS.getD 0 exD)) sz_api_Expr rfl (by repeat (first | exact List.mem_cons_self | apply List.mem_cons_of_mem)) (ha (by omega)) (kid_get (by omega)) (by omega)) ?_
      refine RT.t (ob_fieldAddr fo_api_Expr_5 rfl) ?_
      refine RT.t (ob_ld1 sz_sl_api_Expr rfl rfl) ?_
      refine RT.t (ob_indexAddr el_sl_api_Expr rfl (ha (by omega)) rfl (by omega) (by omega)) ?_
      refine RT.t (ob_loadKid (i := 1) (len := (firstX x).KS.length) (kid := ((firstX x).KS.getD 1 exD)) sz_api_Expr rfl (by repeat (first | exact List.mem_cons_self | apply List.mem_cons_of_mem)) (ha (by omega)) (kid_get (by omega)) (by omega)) ?_
      refine RT.n zc_api_Expr ?_
      refine RT.n zc_api_Expr ?_
      refine RT.t (ob_assign rfl) ?_
      refine RT.s 10 rfl rfl rfl rfl cnt_ex ss_api_Expr (by simp) ?_
      refine RT.s 11 rfl rfl rfl rfl cnt_ex ss_api_Expr (by simp) ?_
      refine RT.nil ?_
      refine FinS.cons fun b9 => ?_
      refine FinS.cons fun b8 => ?_
      refine FinS.nil2 ?_
      repeat (first | refine JX.next ?_ | refine JX.normal_block ?_)
      refine J.sel [3, 6, 7, 8, 9] (.cons rfl (.cons rfl (.cons rfl (.cons rfl (.cons rfl .nil))))) ?_
      refine J.front b9 (by repeat (first | exact .here | apply Front.there)) ?_
      refine J.openOwnE (fun a9 l9 c9 hl9 => ?_)
      subst hl9
      refine J.front b8 (by repeat (first | exact .here | apply Front.there)) ?_
      refine J.openOwnE (fun a8 l8 c8 hl8 => ?_)
      subst hl8
      repeat refine J.seq ?_
      refine J.plain ?_
      refine JO.t (ob_fieldAddr fo_api_Expr_0 rfl) rfl ?_
      refine JO.t (ob_ld1 sz_int rfl rfl) rfl ?_
      refine JO.t (ob_neq rfl rfl) rfl ?_
      refine JO.nil ?_
      repeat (first | refine JX.next ?_ | refine JX.normal_block ?_)
      refine J.sel [3, 6, 7, 8, 9, 48] (.cons rfl (.cons rfl (.cons rfl (.cons rfl (.cons rfl (.cons rfl .nil)))))) ?_
      repeat refine J.seq ?_
      refine J.cond rfl (fun ht48 => ?_) (fun ht48 => ?_)
      ·
        try simp only [decide_eq_true_eq, decide_eq_false_iff_not] at ht48
        repeat refine J.seq ?_
        refine J.regS 5 hmx (by kernel_rfl) (by kernel_rfl) ?_
        refine RT.t (ob_move rfl) ?_
        refine RT.t (ob_call rfl (c_plan_turned _) (.one rfl .nil)) ?_
        refine RT.t (ob_ldN (cs := [_, _, _, _, _, _, _, _]) sz_api_Expr rfl rfl rfl) ?_
        refine RT.t (ob_ldN (cs := [_, _, _, _, _, _, _, _]) sz_api_Expr rfl rfl rfl) ?_
        refine RT.t (ob_assign rfl) ?_
        refine RT.nil ?_
        refine FinS.tail0 ?_
        refine JO.m (obm_store rfl rfl (by repeat (first | exact .here | apply Upd.there)) (by first | exact cnt_is rfl rfl | exact cnt_ex) (by first | exact cnt_is rfl rfl | exact cnt_ex | exact cnt_aggO) ss_api_Expr) (by rfl) ?_
        refine JO.m (obm_store rfl rfl (by repeat (first | exact .here | apply Upd.there)) (by first | exact cnt_is rfl rfl | exact cnt_ex) (by first | exact cnt_is rfl rfl | exact cnt_ex | exact cnt_aggO) ss_api_Expr) (by rfl) ?_
        refine JO.nil ?_
        repeat (first | refine JX.next ?_ | refine JX.normal_block ?_)
        refine J.sel [3, 6, 7, 8, 9] (.cons rfl (.cons rfl (.cons rfl (.cons rfl (.cons rfl .nil))))) ?_
        repeat refine J.seq ?_
        refine J.plain ?_
        refine JO.t (ob_ldN (cs := [_, _, _, _, _, _, _, _]) sz_api_Expr rfl rfl rfl) rfl ?_
        refine JO.t (ob_call rfl (c_plan_literal _) (.sub rfl (Sub.fact (by repeat (first | exact List.mem_cons_self | apply List.mem_cons_of_mem))) .nil)) rfl ?_
        refine JO.t (ob_move rfl) rfl ?_
        refine JO.t (ob_extract0 rfl) rfl ?_
        refine JO.t (ob_extract1 rfl) rfl ?_
        refine JO.alloc zo_api_Value rfl fun b10 => ?_
        refine JO.m (obm_store rfl rfl (by repeat (first | exact .here | apply Upd.there)) (by first | exact cnt_is rfl rfl | exact cnt_ex) (by first | exact cnt_is rfl rfl | exact cnt_ex | exact cnt_aggO) ss_api_Value) (by rfl) ?_
        refine JO.t (ob_assign rfl) rfl ?_
        refine JO.nil ?_
        repeat (first | refine JX.next ?_ | refine JX.normal_block ?_)
        refine J.sel [3, 6, 7, 8, 10, 11] (.cons rfl (.cons rfl (.cons rfl (.cons rfl (.cons rfl (.cons rfl .nil)))))) ?_
        repeat refine J.seq ?_
        refine J.reg0 hmx (by kernel_rfl) (by kernel_rfl) ?_
        refine RT.t (ob_move rfl) ?_
        refine RT.t (ob_not rfl) ?_
        refine RT.t (ob_move rfl) ?_
        refine RT.g rfl rfl rfl (fun hg => ob_fieldAddr fo_api_Expr_0 (.inl rfl)) ?_
        refine RT.g rfl rfl rfl (fun hg => ob_ld1 sz_int (.inr ⟨_, rfl, fun h => h⟩) rfl) ?_
        refine RT.g rfl rfl rfl (fun hg => ob_neq (.inr ⟨_, rfl, fun h => h⟩) (.inl rfl)) ?_
        refine RT.t (ob_pickOr rfl rfl rfl id) ?_
        refine RT.t (ob_move rfl) ?_
        refine RT.g rfl rfl rfl (fun hg => ob_fieldAddr fo_api_Expr_5 (.inl rfl)) ?_
        refine RT.g rfl rfl rfl (fun hg => ob_ld1 sz_sl_api_Expr (.inr ⟨_, rfl, fun h => h⟩) rfl) ?_
        refine RT.g rfl rfl rfl (fun hg => ob_len un_sl_api_Expr (.inr ⟨_, rfl, fun h => h⟩)) ?_
        refine RT.g rfl rfl rfl (fun hg => ob_gtr (.inr ⟨_, rfl, fun h => h⟩) (.inl rfl)) ?_
        refine RT.t (ob_pickOr rfl rfl rfl id) ?_
        refine RT.t (ob_move rfl) ?_
        refine RT.g rfl rfl rfl (fun hg => ob_fieldAddr fo_api_Expr_4 (.inl rfl)) ?_
        refine RT.g rfl rfl rfl (fun hg => ob_ld1 sz_int (.inr ⟨_, rfl, fun h => h⟩) rfl) ?_
        refine RT.g rfl rfl rfl (fun hg => ob_lss (.inr ⟨_, rfl, fun h => h⟩) (.inl rfl)) ?_
        refine RT.t (ob_pickOr rfl rfl rfl id) ?_
        refine RT.t (ob_move rfl) ?_
        refine RT.g rfl rfl rfl (fun hg => ob_fieldAddr fo_api_Expr_4 (.inl rfl)) ?_
        refine RT.g rfl rfl rfl (fun hg => ob_ld1 sz_int (.inr ⟨_, rfl, fun h => h⟩) rfl) ?_
        refine RT.g rfl rfl rfl (fun hg => ob_fieldAddr fo_api_Table_1 (.inl rfl)) ?_
        refine RT.g rfl rfl rfl (fun hg => ob_ld1 sz_sl_api_Column (.inr ⟨_, rfl, fun h => h⟩) rfl) ?_
        refine RT.g rfl rfl rfl (fun hg => ob_len un_sl_api_Column (.inr ⟨_, rfl, fun h => h⟩)) ?_
        refine RT.g rfl rfl rfl (fun hg => ob_geq (.inr ⟨_, rfl, fun h => h⟩) (.inr ⟨_, rfl, fun h => h⟩)) ?_
        refine RT.t (ob_pickOr rfl rfl rfl id) ?_
        refine RT.t (ob_move rfl) ?_
        refine RT.g rfl rfl rfl (fun hg => ob_fieldAddr fo_api_Table_1 (.inl rfl)) ?_
        refine RT.g rfl rfl rfl (fun hg => ob_ld1 sz_sl_api_Column (.inr ⟨_, rfl, fun h => h⟩) rfl) ?_
        refine RT.g rfl rfl rfl (fun hg => ob_fieldAddr fo_api_Expr_4 (.inl rfl)) ?_
        refine RT.g rfl rfl rfl (fun hg => ob_ld1 sz_int (.inr ⟨_, rfl, fun h => h⟩) rfl) ?_
        refine RT.g rfl rfl rfl (fun hg => ob_indexAddr el_sl_api_Column (.inr ⟨_, rfl, fun h => h⟩) (hta (by have h3 := hg; simp only [Bool.or_eq_false_iff, decide_eq_false_iff_not] at h3; omega)) (.inr ⟨_, rfl, fun h => h⟩) (by have h3 := hg; simp only [Bool.or_eq_false_iff, decide_eq_false_iff_not] at h3; omega) (by have h3 := hg; simp only [Bool.or_eq_false_iff, decide_eq_false_iff_not] at h3; omega)) ?_
        refine RT.g rfl rfl rfl (fun hg => ob_fieldAddr fo_api_Column_1 (.inr ⟨_, rfl, fun h => h⟩)) ?_
        refine RT.g rfl rfl rfl (fun hg => ob_loadG1 (enc := C4.cells) (sz := 4) (len := cols.length) (j := 1) (i := ((firstX x).KS.getD 1 exD).SL.toNat) (y := cols.getD ((firstX x).KS.getD 1 exD).SL.toNat c4D) sz_int (.inr ⟨_, rfl, fun h => h⟩) (by repeat (first | exact List.mem_cons_self | apply List.mem_cons_of_mem)) (hta (by have h3 := hg; simp only [Bool.or_eq_false_iff, decide_eq_false_iff_not] at h3; omega)) (c4_get (by have h3 := hg; simp only [Bool.or_eq_false_iff, decide_eq_false_iff_not] at h3; omega)) (by omega) rfl) ?_
        refine RT.g rfl rfl rfl (fun hg => ob_fieldAddr fo_api_Value_0 (.inl rfl)) ?_
        refine RT.g rfl rfl rfl (fun hg => ob_ld1 sz_int (.inr ⟨_, rfl, fun h => h⟩) rfl) ?_
        refine RT.g rfl rfl rfl (fun hg => ob_neq (.inr ⟨_, rfl, fun h => h⟩) (.inr ⟨_, rfl, fun h => h⟩)) ?_
        refine RT.t (ob_pickOr rfl rfl rfl id) ?_
        refine RT.nil ?_
        refine FinS.nil0 ?_
        repeat (first | refine JX.next ?_ | refine JX.normal_block ?_)
        refine J.sel [6, 7, 8, 10, 95] (.cons rfl (.cons rfl (.cons rfl (.cons rfl (.cons rfl .nil))))) ?_
        repeat refine J.seq ?_
        refine J.cond rfl (fun ht95 => ?_) (fun ht95 => ?_)
        ·
          try simp only [decide_eq_true_eq, decide_eq_false_iff_not] at ht95
          repeat refine J.seq ?_
          refine J.plain ?_
          refine JO.t (ob_build (cs := [_, _, _]) sh_api_Value .nil rfl rfl) rfl ?_
          refine JO.t (ob_assign rfl) rfl ?_
          refine JO.t (ob_assign rfl) rfl ?_
          refine JO.m (obm_store rfl rfl (by repeat (first | exact .here | apply Upd.there)) (by first | exact cnt_is rfl rfl | exact cnt_ex) (by first | exact cnt_is rfl rfl | exact cnt_ex | exact cnt_aggO) ss_api_Value) (by rfl) ?_
          refine JO.nil ?_
          repeat (first | refine JX.next ?_ | refine JX.normal_block ?_)
          refine J.sel [4, 5, 6] (.cons rfl (.cons rfl (.cons rfl .nil))) ?_
          repeat refine J.seq ?_
          refine J.ret ?_
          repeat (first | refine JX.ret_pass ?_ | refine JX.ret_block ?_)
          have hq : questF cols x = (0, 0, zero3) := by unfold questF; rw [if_neg (by rw [ht34]; simp), if_pos ht48, ask_no ht95]
          exact JX.ret2Cis rfl rfl rfl rfl sz_api_Value HasOwn.mem rfl (by rw [hq]) (by rw [hq]) (by rw [hq]; try rfl)
        ·
          try simp only [decide_eq_true_eq, decide_eq_false_iff_not] at ht95
          refine J.skip ?_
          repeat (first | refine JX.next ?_ | refine JX.normal_block ?_)
          repeat refine J.seq ?_
          refine J.front b6 (by repeat (first | exact .here | apply Front.there)) ?_
          refine J.reg1 hmx (by kernel_rfl) (by kernel_rfl) ?_
          refine RT.t (ob_fieldAddr fo_api_Expr_4 rfl) ?_
          refine RT.t (ob_ld1 sz_int rfl rfl) ?_
          refine RT.t (ob_move rfl) ?_
          refine RT.t (ob_ldN (cs := [_, _, _]) sz_api_Value rfl rfl rfl) ?_
          refine RT.t (ob_assign rfl) ?_
          refine RT.t (ob_assign rfl) ?_
          refine RT.m rfl (obm_store rfl rfl (by repeat (first | exact .here | apply Upd.there)) (by first | exact cnt_is rfl rfl | exact cnt_ex) (by first | exact cnt_is rfl rfl | exact cnt_ex | exact cnt_aggO) ss_api_Value) (by rfl) ?_
          refine RT.nil ?_
          refine FinS.nil1 ?_
          repeat (first | refine JX.next ?_ | refine JX.normal_block ?_)
          refine J.sel [4, 5, 6] (.cons rfl (.cons rfl (.cons rfl .nil))) ?_
          repeat refine J.seq ?_
          refine J.ret ?_
          repeat (first | refine JX.ret_pass ?_ | refine JX.ret_block ?_)
          have hq : questF cols x = (((firstX x).KS.getD 1 exD).SL, turnF (firstX x).K, (litF ((firstX x).KS.getD 0 exD)).1) := by unfold questF; rw [if_neg (by rw [ht34]; simp), if_pos ht48, ask_yes ht95]
          exact JX.ret2Cis rfl rfl rfl rfl sz_api_Value HasOwn.mem rfl (by rw [hq]) (by rw [hq]) (by rw [hq]; try rfl)
      ·
        try simp only [decide_eq_true_eq, decide_eq_false_iff_not] at ht48
        refine J.skip ?_
        repeat (first | refine JX.next ?_ | refine JX.normal_block ?_)
        repeat refine J.seq ?_
        refine J.plain ?_
        refine JO.t (ob_ldN (cs := [_, _, _, _, _, _, _, _]) sz_api_Expr rfl rfl rfl) rfl ?_
        refine JO.t (ob_call rfl (c_plan_literal _) (.sub rfl (Sub.fact (by repeat (first | exact List.mem_cons_self | apply List.mem_cons_of_mem))) .nil)) rfl ?_
        refine JO.t (ob_move rfl) rfl ?_
        refine JO.t (ob_extract0 rfl) rfl ?_
        refine JO.t (ob_extract1 rfl) rfl ?_
        refine JO.alloc zo_api_Value rfl fun b10 => ?_
        refine JO.m (obm_store rfl rfl (by repeat (first | exact .here | apply Upd.there)) (by first | exact cnt_is rfl rfl | exact cnt_ex) (by first | exact cnt_is rfl rfl | exact cnt_ex | exact cnt_aggO) ss_api_Value) (by rfl) ?_
        refine JO.t (ob_assign rfl) rfl ?_
        refine JO.nil ?_
        repeat (first | refine JX.next ?_ | refine JX.normal_block ?_)
        refine J.sel [3, 6, 7, 8, 10, 11] (.cons rfl (.cons rfl (.cons rfl (.cons rfl (.cons rfl (.cons rfl .nil)))))) ?_
        repeat refine J.seq ?_
        refine J.reg0 hmx (by kernel_rfl) (by kernel_rfl) ?_
        refine RT.t (ob_move rfl) ?_
        refine RT.t (ob_not rfl) ?_
        refine RT.t (ob_move rfl) ?_
        refine RT.g rfl rfl rfl (fun hg => ob_fieldAddr fo_api_Expr_0 (.inl rfl)) ?_
        refine RT.g rfl rfl rfl (fun hg => ob_ld1 sz_int (.inr ⟨_, rfl, fun h => h⟩) rfl) ?_
        refine RT.g rfl rfl rfl (fun hg => ob_neq (.inr ⟨_, rfl, fun h => h⟩) (.inl rfl)) ?_
        refine RT.t (ob_pickOr rfl rfl rfl id) ?_
        refine RT.t (ob_move rfl) ?_
        refine RT.g rfl rfl rfl (fun hg => ob_fieldAddr fo_api_Expr_5 (.inl rfl)) ?_
        refine RT.g rfl rfl rfl (fun hg => ob_ld1 sz_sl_api_Expr (.inr ⟨_, rfl, fun h => h⟩) rfl) ?_
        refine RT.g rfl rfl rfl (fun hg => ob_len un_sl_api_Expr (.inr ⟨_, rfl, fun h => h⟩)) ?_
        refine RT.g rfl rfl rfl (fun hg => ob_gtr (.inr ⟨_, rfl, fun h => h⟩) (.inl rfl)) ?_
        refine RT.t (ob_pickOr rfl rfl rfl id) ?_
        refine RT.t (ob_move rfl) ?_
        refine RT.g rfl rfl rfl (fun hg => ob_fieldAddr fo_api_Expr_4 (.inl rfl)) ?_
        refine RT.g rfl rfl rfl (fun hg => ob_ld1 sz_int (.inr ⟨_, rfl, fun h => h⟩) rfl) ?_
        refine RT.g rfl rfl rfl (fun hg => ob_lss (.inr ⟨_, rfl, fun h => h⟩) (.inl rfl)) ?_
        refine RT.t (ob_pickOr rfl rfl rfl id) ?_
        refine RT.t (ob_move rfl) ?_
        refine RT.g rfl rfl rfl (fun hg => ob_fieldAddr fo_api_Expr_4 (.inl rfl)) ?_
        refine RT.g rfl rfl rfl (fun hg => ob_ld1 sz_int (.inr ⟨_, rfl, fun h => h⟩) rfl) ?_
        refine RT.g rfl rfl rfl (fun hg => ob_fieldAddr fo_api_Table_1 (.inl rfl)) ?_
        refine RT.g rfl rfl rfl (fun hg => ob_ld1 sz_sl_api_Column (.inr ⟨_, rfl, fun h => h⟩) rfl) ?_
        refine RT.g rfl rfl rfl (fun hg => ob_len un_sl_api_Column (.inr ⟨_, rfl, fun h => h⟩)) ?_
        refine RT.g rfl rfl rfl (fun hg => ob_geq (.inr ⟨_, rfl, fun h => h⟩) (.inr ⟨_, rfl, fun h => h⟩)) ?_
        refine RT.t (ob_pickOr rfl rfl rfl id) ?_
        refine RT.t (ob_move rfl) ?_
        refine RT.g rfl rfl rfl (fun hg => ob_fieldAddr fo_api_Table_1 (.inl rfl)) ?_
        refine RT.g rfl rfl rfl (fun hg => ob_ld1 sz_sl_api_Column (.inr ⟨_, rfl, fun h => h⟩) rfl) ?_
        refine RT.g rfl rfl rfl (fun hg => ob_fieldAddr fo_api_Expr_4 (.inl rfl)) ?_
        refine RT.g rfl rfl rfl (fun hg => ob_ld1 sz_int (.inr ⟨_, rfl, fun h => h⟩) rfl) ?_
        refine RT.g rfl rfl rfl (fun hg => ob_indexAddr el_sl_api_Column (.inr ⟨_, rfl, fun h => h⟩) (hta (by have h3 := hg; simp only [Bool.or_eq_false_iff, decide_eq_false_iff_not] at h3; omega)) (.inr ⟨_, rfl, fun h => h⟩) (by have h3 := hg; simp only [Bool.or_eq_false_iff, decide_eq_false_iff_not] at h3; omega) (by have h3 := hg; simp only [Bool.or_eq_false_iff, decide_eq_false_iff_not] at h3; omega)) ?_
        refine RT.g rfl rfl rfl (fun hg => ob_fieldAddr fo_api_Column_1 (.inr ⟨_, rfl, fun h => h⟩)) ?_
        refine RT.g rfl rfl rfl (fun hg => ob_loadG1 (enc := C4.cells) (sz := 4) (len := cols.length) (j := 1) (i := ((firstX x).KS.getD 0 exD).SL.toNat) (y := cols.getD ((firstX x).KS.getD 0 exD).SL.toNat c4D) sz_int (.inr ⟨_, rfl, fun h => h⟩) (by repeat (first | exact List.mem_cons_self | apply List.mem_cons_of_mem)) (hta (by have h3 := hg; simp only [Bool.or_eq_false_iff, decide_eq_false_iff_not] at h3; omega)) (c4_get (by have h3 := hg; simp only [Bool.or_eq_false_iff, decide_eq_false_iff_not] at h3; omega)) (by omega) rfl) ?_
        refine RT.g rfl rfl rfl (fun hg => ob_fieldAddr fo_api_Value_0 (.inl rfl)) ?_
        refine RT.g rfl rfl rfl (fun hg => ob_ld1 sz_int (.inr ⟨_, rfl, fun h => h⟩) rfl) ?_
        refine RT.g rfl rfl rfl (fun hg => ob_neq (.inr ⟨_, rfl, fun h => h⟩) (.inr ⟨_, rfl, fun h => h⟩)) ?_
        refine RT.t (ob_pickOr rfl rfl rfl id) ?_
        refine RT.nil ?_
        refine FinS.nil0 ?_
        repeat (first | refine JX.next ?_ | refine JX.normal_block ?_)
        refine J.sel [6, 7, 8, 10, 95] (.cons rfl (.cons rfl (.cons rfl (.cons rfl (.cons rfl .nil))))) ?_
        repeat refine J.seq ?_
        refine J.cond rfl (fun ht95 => ?_) (fun ht95 => ?_)
        ·
          try simp only [decide_eq_true_eq, decide_eq_false_iff_not] at ht95
          repeat refine J.seq ?_
          refine J.plain ?_
          refine JO.t (ob_build (cs := [_, _, _]) sh_api_Value .nil rfl rfl) rfl ?_
          refine JO.t (ob_assign rfl) rfl ?_
          refine JO.t (ob_assign rfl) rfl ?_
          refine JO.m (obm_store rfl rfl (by repeat (first | exact .here | apply Upd.there)) (by first | exact cnt_is rfl rfl | exact cnt_ex) (by first | exact cnt_is rfl rfl | exact cnt_ex | exact cnt_aggO) ss_api_Value) (by rfl) ?_
          refine JO.nil ?_
          repeat (first | refine JX.next ?_ | refine JX.normal_block ?_)
          refine J.sel [4, 5, 6] (.cons rfl (.cons rfl (.cons rfl .nil))) ?_
          repeat refine J.seq ?_
          refine J.ret ?_
          repeat (first | refine JX.ret_pass ?_ | refine JX.ret_block ?_)
          have hq : questF cols x = (0, 0, zero3) := by unfold questF; rw [if_neg (by rw [ht34]; simp), if_neg (by rw [ht48]; simp), ask_no ht95]
          exact JX.ret2Cis rfl rfl rfl rfl sz_api_Value HasOwn.mem rfl (by rw [hq]) (by rw [hq]) (by rw [hq]; try rfl)
        ·
          try simp only [decide_eq_true_eq, decide_eq_false_iff_not] at ht95
          refine J.skip ?_
          repeat (first | refine JX.next ?_ | refine JX.normal_block ?_)
          repeat refine J.seq ?_
          refine J.front b6 (by repeat (first | exact .here | apply Front.there)) ?_
          refine J.reg1 hmx (by kernel_rfl) (by kernel_rfl) ?_
          refine RT.t (ob_fieldAddr fo_api_Expr_4 rfl) ?_
          refine RT.t (ob_ld1 sz_int rfl rfl) ?_
          refine RT.t (ob_move rfl) ?_
          refine RT.t (ob_ldN (cs := [_, _, _]) sz_api_Value rfl rfl rfl) ?_
          refine RT.t (ob_assign rfl) ?_
          refine RT.t (ob_assign rfl) ?_
          refine RT.m rfl (obm_store rfl rfl (by repeat (first | exact .here | apply Upd.there)) (by first | exact cnt_is rfl rfl | exact cnt_ex) (by first | exact cnt_is rfl rfl | exact cnt_ex | exact cnt_aggO) ss_api_Value) (by rfl) ?_
          refine RT.nil ?_
          refine FinS.nil1 ?_
          repeat (first | refine JX.next ?_ | refine JX.normal_block ?_)
          refine J.sel [4, 5, 6] (.cons rfl (.cons rfl (.cons rfl .nil))) ?_
          repeat refine J.seq ?_
          refine J.ret ?_
          repeat (first | refine JX.ret_pass ?_ | refine JX.ret_block ?_)
          have hq : questF cols x = (((firstX x).KS.getD 0 exD).SL, (firstX x).K, (litF ((firstX x).KS.getD 1 exD)).1) := by unfold questF; rw [if_neg (by rw [ht34]; simp), if_neg (by rw [ht48]; simp), ask_yes ht95]
          exact JX.ret2Cis rfl rfl rfl rfl sz_api_Value HasOwn.mem rfl (by rw [hq]) (by rw [hq]) (by rw [hq]; try rfl)
end Go.Proofs.Ytjlojkchgfeenaa
