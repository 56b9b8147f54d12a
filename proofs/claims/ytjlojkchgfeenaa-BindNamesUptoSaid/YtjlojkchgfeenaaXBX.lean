/- Columns more, columns found: what the statement does. No condition. -/
import Derived.Test.YtjlojkchgfeenaaXBN
import Derived.Test.YtjlojkchgfeenaaXAW
set_option maxRecDepth 20000
namespace Go.Proofs.Ytjlojkchgfeenaa
open Go Go.Vc
theorem c_law14_BindNames (x : Ex) (cols : List C3) (more : C3) (hl : cols.length ≤ 1048576) : CallTy Try.prog f_law14_BindNames [.rep (ExR x), .rep (SlG C3.cells 3 cols), .is (.agg more.cells.toArray)] (.is (.bool true)) :=
  CallTy.of (fn := Try.f3) Try.func3 (n := 162) rfl rfl rfl (fun _ _ => by kernel_rfl) fun E W => by
  repeat refine J.seq ?_
  refine J.plain ?_
  refine JO.box rfl rfl fun b3 => ?_
  refine JO.box rfl rfl fun b5 => ?_
  refine JO.t (ob_assign rfl) rfl ?_
  refine JO.nil ?_
  repeat (first | refine JX.next ?_ | refine JX.normal_block ?_)
  refine J.sel [1, 3, 5] (.cons rfl (.cons rfl (.cons rfl .nil))) ?_
  repeat refine J.seq ?_
  refine J.plain ?_
  refine JO.t (ob_call rfl (c_law14_awake) .nil) rfl ?_
  refine JO.t (ob_not rfl) rfl ?_
  refine JO.nil ?_
  repeat (first | refine JX.next ?_ | refine JX.normal_block ?_)
  refine J.sel [1, 3, 5, 21] (.cons rfl (.cons rfl (.cons rfl (.cons rfl .nil)))) ?_
  repeat refine J.seq ?_
  refine J.cond rfl (fun ht21 => ?_) (fun ht21 => ?_)
  ·
    try simp only [decide_eq_true_eq, decide_eq_false_iff_not] at ht21
    repeat refine J.seq ?_
    refine J.plain ?_
    refine JO.t (ob_assign rfl) rfl ?_
    refine JO.nil ?_
    repeat (first | refine JX.next ?_ | refine JX.normal_block ?_)
    refine J.sel [6] (.cons rfl .nil) ?_
    repeat refine J.seq ?_
    refine J.ret ?_
    repeat (first | refine JX.ret_pass ?_ | refine JX.ret_block ?_)
    exact JX.ret1is rfl rfl (by simp at ht21)
  ·
    try simp only [decide_eq_true_eq, decide_eq_false_iff_not] at ht21
    refine J.skip ?_
    repeat (first | refine JX.next ?_ | refine JX.normal_block ?_)
    repeat refine J.seq ?_
    refine J.plain ?_
    refine JO.t (ob_move rfl) rfl ?_
    refine JO.t (ob_call rfl (c_law14_scope cols hl) (.one rfl .nil)) rfl ?_
    refine JO.t (ob_assign rfl) rfl ?_
    refine JO.nil ?_
    repeat (first | refine JX.next ?_ | refine JX.normal_block ?_)
    refine J.sel [3, 5, 7] (.cons rfl (.cons rfl (.cons rfl .nil))) ?_
    refine J.cutS (K1 := [(8, .rep (SlG C3.cells 3 (cols ++ [more]))), (3, .is (.pointer (some ⟨b3, 0, none⟩))), (7, .rep (SlG C3.cells 3 cols))]) ?_ ?_
    · by_cases hc0 : cols = []
      · subst hc0
        refine J.regS 11 hmx (by kernel_rfl) (by kernel_rfl) ?_
        refine RT.t (ob_buildSlice0 sl_sl_bind_Col) ?_
        refine RT.t (ob_move rfl) ?_
        refine RT.t (ob_ap00 ap_sl_bind_Col rfl emptySl rfl (src_sl C3.len (by omega) c3_one un_sl_bind_Col)) ?_
        refine RT.t (ob_fieldAddr fo_cadastreref14_Col_0 rfl) ?_
        refine RT.t (ob_ld1 sz_string rfl rfl) ?_
        refine RT.t (ob_fieldAddr fo_cadastreref14_Col_1 rfl) ?_
        refine RT.t (ob_ld1 sz_string rfl rfl) ?_
        refine RT.t (ob_fieldAddr fo_cadastreref14_Col_2 rfl) ?_
        refine RT.t (ob_ld1 sz_int rfl rfl) ?_
        refine RT.t (ob_build (cs := [_, _, _]) sh_bind_Col (.cons rfl (.cons rfl (.cons rfl .nil))) rfl rfl) ?_
        refine RT.t (ob_buildSlice (cs := [_, _, _]) sl_sl_bind_Col (by omega) (by omega) (.cons rfl .nil) rfl rfl rfl) ?_
        refine RT.nil ?_
        refine FinS.tail0 ?_
        refine JO.open_ (s := 26) rfl (fun v hv => ?_)
        obtain ⟨w0, a0, rfl⟩ := hv
        refine JO.dropF ?_
        refine JO.ap0 (n := 1) ap_sl_bind_Col rfl nilSl rfl (src_new un_sl_bind_Col rfl rfl) (by omega) (by omega) rfl (fun h0 => absurd h0 (by omega)) (fun _ b' cap' cs' g1 g2 g3 => ?_)
        refine JO.t (ob_assign rfl) rfl ?_
        refine JO.nil ?_
        refine JX.slOwn (n := 1) (cap := cap') (xs := [more]) (d := 8) C3.len ?_ ?_ ?_ ?_ ?_ ?_ [3, 7] ?_
        · exact fun _ h => h
        · rfl
        · rfl
        · exact g3
        · rfl
        · rfl
        · exact (.cons rfl (.cons rfl .nil))
      · refine J.regBm (Tg := fun g : GrG C3.cells 3 cols => .is (sliceO g.1.1 cols.length g.1.2)) (Lg := fun g => ownO g.1.1 ty_bind_Col [⟨b5, ty_cadastreref14_Col, .is (.agg more.cells.toArray)⟩, ⟨b3, ty_api_Expr, .rep (ExR x)⟩]) 2 11 _ rfl rfl rfl rfl hmx (by kernel_rfl) rfl (by kernel_rfl) (fun _ h => h) (fun g o ho => mem_ownO ho) ?_
        refine RT.t (ob_buildSlice0 sl_sl_bind_Col) ?_
        refine RT.t (ob_move rfl) ?_
        refine RT.big (big_ap0 (ys := cols) ap_sl_bind_Col rfl emptySl rfl (src_sl C3.len (by omega) c3_one un_sl_bind_Col) hc0 (by omega) (by omega)) ?_
        refine RT.t (ob_fieldAddr fo_cadastreref14_Col_0 rfl) ?_
        refine RT.t (ob_ld1 sz_string rfl rfl) ?_
        refine RT.t (ob_fieldAddr fo_cadastreref14_Col_1 rfl) ?_
        refine RT.t (ob_ld1 sz_string rfl rfl) ?_
        refine RT.t (ob_fieldAddr fo_cadastreref14_Col_2 rfl) ?_
        refine RT.t (ob_ld1 sz_int rfl rfl) ?_
        refine RT.t (ob_build (cs := [_, _, _]) sh_bind_Col (.cons rfl (.cons rfl (.cons rfl .nil))) rfl rfl) ?_
        refine RT.t (ob_buildSlice (cs := [_, _, _]) sl_sl_bind_Col (by omega) (by omega) (.cons rfl .nil) rfl rfl rfl) ?_
        refine RT.nil ?_
        intro g
        obtain ⟨⟨st8, cp8⟩, hG8⟩ := g
        dsimp only at hG8 ⊢
        refine JO.apP [more] ap_sl_bind_Col C3.len .here hG8 rfl rfl (fun L => src_new un_sl_bind_Col rfl rfl) (by simp) (by simp; omega) (by simp; omega) rfl (fun st9 cp9 hG9 => ?_)
        refine JO.t (ob_assign rfl) rfl ?_
        refine JO.nil ?_
        exact JX.slO (d := 8) C3.len hG9 (fun _ h => h) rfl rfl rfl [3, 7] (.cons rfl (.cons rfl .nil))
    refine J.sel [3, 7, 8] (.cons rfl (.cons rfl (.cons rfl .nil))) ?_
    repeat refine J.seq ?_
    refine J.plain ?_
    refine JO.t (ob_ldEx sz_api_Expr rfl) rfl ?_
    refine JO.t (ob_move rfl) rfl ?_
    refine JO.t (ob_call rfl (bindOK cols (by omega) x) (.one rfl (.one rfl .nil))) rfl ?_
    refine JO.t (ob_move rfl) rfl ?_
    refine JO.t (ob_extract30 rfl) rfl ?_
    refine JO.openA (s := 40) rfl (fun ka kl kc kb ko hkl hka => ?_)
    refine JO.t (ob_extract31 rfl) rfl ?_
    refine JO.t (ob_extract32 rfl) rfl ?_
    refine JO.alloc zo_api_Expr rfl fun b9 => ?_
    refine JO.m (obm_store rfl rfl (by repeat (first | exact .here | apply Upd.there)) (by first | exact cnt_is rfl rfl | exact cnt_ex) (by first | exact cnt_is rfl rfl | exact cnt_ex | exact cnt_aggO) ss_api_Expr) (by rfl) ?_
    refine JO.t (ob_assign rfl) rfl ?_
    refine JO.t (ob_assign rfl) rfl ?_
    refine JO.nil ?_
    repeat (first | refine JX.next ?_ | refine JX.normal_block ?_)
    refine J.sel [3, 7, 8, 9, 10, 11] (.cons rfl (.cons rfl (.cons rfl (.cons rfl (.cons rfl (.cons rfl .nil)))))) ?_
    repeat refine J.seq ?_
    refine J.plain ?_
    refine JO.t (ob_ldEx sz_api_Expr rfl) rfl ?_
    refine JO.t (ob_move rfl) rfl ?_
    refine JO.t (ob_call rfl (bindOK (cols ++ [more]) (by simp; omega) x) (.one rfl (.one rfl .nil))) rfl ?_
    refine JO.t (ob_move rfl) rfl ?_
    refine JO.t (ob_extract30 rfl) rfl ?_
    refine JO.openA (s := 47) rfl (fun na nl nc nb no hnl hna => ?_)
    refine JO.t (ob_extract31 rfl) rfl ?_
    refine JO.t (ob_extract32 rfl) rfl ?_
    refine JO.alloc zo_api_Expr rfl fun b12 => ?_
    refine JO.m (obm_store rfl rfl (by repeat (first | exact .here | apply Upd.there)) (by first | exact cnt_is rfl rfl | exact cnt_ex) (by first | exact cnt_is rfl rfl | exact cnt_ex | exact cnt_aggO) ss_api_Expr) (by rfl) ?_
    refine JO.t (ob_assign rfl) rfl ?_
    refine JO.t (ob_assign rfl) rfl ?_
    refine JO.nil ?_
    repeat (first | refine JX.next ?_ | refine JX.normal_block ?_)
    refine J.sel [7, 9, 10, 11, 12, 13, 14] (.cons rfl (.cons rfl (.cons rfl (.cons rfl (.cons rfl (.cons rfl (.cons rfl .nil))))))) ?_
    repeat refine J.seq ?_
    refine J.reg0 hmx (by kernel_rfl) (by kernel_rfl) ?_
    refine RT.t (ob_move rfl) ?_
    refine RT.t (ob_eql rfl rfl) ?_
    refine RT.t (ob_move rfl) ?_
    refine RT.g rfl rfl rfl (fun hg => ob_move (.inl rfl)) ?_
    refine RT.g rfl rfl rfl (fun hg => ob_neq (.inr ⟨_, rfl, fun h => h⟩) (.inl rfl)) ?_
    refine RT.t (ob_pickAnd rfl rfl rfl id) ?_
    refine RT.t (ob_move rfl) ?_
    refine RT.g rfl rfl rfl (fun hg => ob_move (.inl rfl)) ?_
    refine RT.g rfl rfl rfl (fun hg => ob_neq (.inr ⟨_, rfl, fun h => h⟩) (.inl rfl)) ?_
    refine RT.t (ob_pickAnd rfl rfl rfl id) ?_
    refine RT.t (ob_move rfl) ?_
    refine RT.g rfl rfl rfl (fun hg => ob_move (.inl rfl)) ?_
    refine RT.g rfl rfl rfl (fun hg => ob_eql (.inr ⟨_, rfl, fun h => h⟩) (.inl rfl)) ?_
    refine RT.g rfl rfl rfl (fun hg => ob_move (.inr ⟨_, rfl, fun h => h⟩)) ?_
    refine RT.gg rfl rfl rfl (fun hg => (ob_move (.inl rfl))) ?_
    refine RT.gg rfl rfl rfl (fun hg => (ob_eql (.inr ⟨_, rfl, fun h => h⟩) (.inl rfl))) ?_
    refine RT.g rfl rfl rfl (fun hg => ob_pickAnd (.inr ⟨_, rfl, fun h => h⟩) (.inl rfl) (.inl rfl) (fun h => ⟨hg, h⟩)) ?_
    refine RT.g rfl rfl rfl (fun hg => ob_move (.inr ⟨_, rfl, fun h => h⟩)) ?_
    refine RT.gg rfl rfl rfl (fun hg => (ob_move (.inl rfl))) ?_
    refine RT.gg rfl rfl rfl (fun hg => (ob_move (.inl rfl))) ?_
    refine RT.gg rfl rfl rfl (fun hg => (ob_neq (.inr ⟨_, rfl, fun h => h⟩) (.inr ⟨_, rfl, fun h => h⟩))) ?_
    refine RT.gg rfl rfl rfl (fun hg => (ob_move (.inr ⟨_, rfl, fun h => h⟩))) ?_
    refine RT.gg rfl rfl rfl (fun hg => (ob_fieldAddr fo_api_Expr_0 (.inl rfl))) ?_
    refine RT.gg rfl rfl rfl (fun hg => (ob_ld1 sz_int (.inr ⟨_, rfl, fun h => h⟩) rfl)) ?_
    refine RT.gg rfl rfl rfl (fun hg => (ob_fieldAddr fo_api_Expr_0 (.inl rfl))) ?_
    refine RT.gg rfl rfl rfl (fun hg => (ob_ld1 sz_int (.inr ⟨_, rfl, fun h => h⟩) rfl)) ?_
    refine RT.gg rfl rfl rfl (fun hg => (ob_neq (.inr ⟨_, rfl, fun h => h⟩) (.inr ⟨_, rfl, fun h => h⟩))) ?_
    refine RT.gg rfl rfl rfl (fun hg => (ob_pickOr (.inr ⟨_, rfl, fun h => h⟩) (.inl rfl) (.inl rfl) (fun h => ⟨hg, h⟩))) ?_
    refine RT.gg rfl rfl rfl (fun hg => (ob_move (.inr ⟨_, rfl, fun h => h⟩))) ?_
    refine RT.gg rfl rfl rfl (fun hg => (ob_fieldAddr fo_api_Expr_4 (.inl rfl))) ?_
    refine RT.gg rfl rfl rfl (fun hg => (ob_ld1 sz_int (.inr ⟨_, rfl, fun h => h⟩) rfl)) ?_
    refine RT.gg rfl rfl rfl (fun hg => (ob_fieldAddr fo_api_Expr_4 (.inl rfl))) ?_
    refine RT.gg rfl rfl rfl (fun hg => (ob_ld1 sz_int (.inr ⟨_, rfl, fun h => h⟩) rfl)) ?_
    refine RT.gg rfl rfl rfl (fun hg => (ob_neq (.inr ⟨_, rfl, fun h => h⟩) (.inr ⟨_, rfl, fun h => h⟩))) ?_
    refine RT.gg rfl rfl rfl (fun hg => (ob_pickOr (.inr ⟨_, rfl, fun h => h⟩) (.inl rfl) (.inl rfl) (fun h => ⟨hg, h⟩))) ?_
    refine RT.g rfl rfl rfl (fun hg => ob_pickAnd (.inr ⟨_, rfl, fun h => h⟩) (.inl rfl) (.inl rfl) (fun h => ⟨hg, h⟩)) ?_
    refine RT.t (ob_pickOr rfl rfl rfl id) ?_
    refine RT.nil ?_
    refine FinS.nil0 ?_
    repeat (first | refine JX.next ?_ | refine JX.normal_block ?_)
    refine J.sel [7, 86] (.cons rfl (.cons rfl .nil)) ?_
    repeat refine J.seq ?_
    refine J.cond rfl (fun ht86 => ?_) (fun ht86 => ?_)
    ·
      try simp only [decide_eq_true_eq, decide_eq_false_iff_not] at ht86
      repeat refine J.seq ?_
      refine J.plain ?_
      refine JO.t (ob_assign rfl) rfl ?_
      refine JO.nil ?_
      repeat (first | refine JX.next ?_ | refine JX.normal_block ?_)
      refine J.sel [6] (.cons rfl .nil) ?_
      repeat refine J.seq ?_
      refine J.ret ?_
      repeat (first | refine JX.ret_pass ?_ | refine JX.ret_block ?_)
      exact JX.ret1is rfl rfl (by rw [names_law] at ht86; cases ht86)
    ·
      try simp only [decide_eq_true_eq, decide_eq_false_iff_not] at ht86
      refine J.skip ?_
      repeat (first | refine JX.next ?_ | refine JX.normal_block ?_)
      refine J.openSl (s := 7) rfl (fun a len cap b o hlen ha => ?_)
      subst hlen
      repeat refine J.seq ?_
      refine J.plain ?_
      refine JO.t (ob_assign rfl) rfl ?_
      refine JO.nil ?_
      repeat (first | refine JX.next ?_ | refine JX.normal_block ?_)
      refine J.sel [7, 15] (.cons rfl (.cons rfl .nil)) ?_
      repeat refine J.seq ?_
      refine J.block ?_
      repeat refine J.seq ?_
      refine J.loopF (α := Nat) (fun s => [(7, .is (.slice a cols.length cap)), (15, .is (.int .i64 (s : Nat)))]) (fun s => s ≤ cols.length) (fun s => cols.length - s) 0 [7, 15] (.cons rfl (.cons rfl .nil)) (Nat.zero_le _) fun i hi => ?_
      repeat refine J.seq ?_
      refine J.plain ?_
      refine JO.t (ob_move rfl) rfl ?_
      refine JO.t (ob_move rfl) rfl ?_
      refine JO.t (ob_len un_sl_bind_Col rfl) rfl ?_
      refine JO.t (ob_lss rfl rfl) rfl ?_
      refine JO.nil ?_
      repeat (first | refine JX.next ?_ | refine JX.normal_block ?_)
      refine J.sel [7, 15, 90] (.cons rfl (.cons rfl (.cons rfl .nil))) ?_
      repeat refine J.seq ?_
      refine J.cond rfl (fun ht90 => ?_) (fun ht90 => ?_)
      ·
        try simp only [decide_eq_true_eq, decide_eq_false_iff_not] at ht90
        refine J.skip ?_
        repeat (first | refine JX.next ?_ | refine JX.normal_block ?_)
        repeat refine J.seq ?_
        refine J.block ?_
        repeat refine J.seq ?_
        refine J.plain ?_
        refine JO.t (ob_assign rfl) rfl ?_
        refine JO.nil ?_
        repeat (first | refine JX.next ?_ | refine JX.normal_block ?_)
        refine J.sel [7, 15, 16] (.cons rfl (.cons rfl (.cons rfl .nil))) ?_
        repeat refine J.seq ?_
        refine J.plain ?_
        refine JO.t (ob_assign rfl) rfl ?_
        refine JO.nil ?_
        repeat (first | refine JX.next ?_ | refine JX.normal_block ?_)
        refine J.sel [7, 15, 16, 17] (.cons rfl (.cons rfl (.cons rfl (.cons rfl .nil)))) ?_
        repeat refine J.seq ?_
        refine J.block ?_
        repeat refine J.seq ?_
        refine J.loopF (α := Nat × Int) (fun s => [(7, .is (.slice a cols.length cap)), (15, .is (.int .i64 (i : Nat))), (16, .is (.int .i64 s.2)), (17, .is (.int .i64 (s.1 : Nat)))]) (fun s => s.1 ≤ cols.length ∧ s.2 = ((cols.take s.1).countP (mtF (cols.getD i c3D).t (cols.getD i c3D).n) : Nat)) (fun s => cols.length - s.1) (0, 0) [7, 15, 16, 17] (.cons rfl (.cons rfl (.cons rfl (.cons rfl .nil)))) ⟨by omega, by simp⟩ fun ⟨k, n⟩ ⟨hk, hn⟩ => ?_
        try dsimp only at n
        try dsimp only at hk
        try dsimp only at hn
        repeat refine J.seq ?_
        refine J.plain ?_
        refine JO.t (ob_move rfl) rfl ?_
        refine JO.t (ob_move rfl) rfl ?_
        refine JO.t (ob_len un_sl_bind_Col rfl) rfl ?_
        refine JO.t (ob_lss rfl rfl) rfl ?_
        refine JO.nil ?_
        repeat (first | refine JX.next ?_ | refine JX.normal_block ?_)
        refine J.sel [7, 15, 16, 17, 96] (.cons rfl (.cons rfl (.cons rfl (.cons rfl (.cons rfl .nil))))) ?_
        repeat refine J.seq ?_
        refine J.cond rfl (fun ht96 => ?_) (fun ht96 => ?_)
        ·
          try simp only [decide_eq_true_eq, decide_eq_false_iff_not] at ht96
          refine J.skip ?_
          repeat (first | refine JX.next ?_ | refine JX.normal_block ?_)
          repeat refine J.seq ?_
          refine J.block ?_
          repeat refine J.seq ?_
          refine J.reg0 hmx (by kernel_rfl) (by kernel_rfl) ?_
          refine RT.t (ob_move rfl) ?_
          refine RT.t (ob_move rfl) ?_
          refine RT.t (ob_indexAddr el_sl_bind_Col rfl (ha (by omega)) rfl (by omega) (by omega)) ?_
          refine RT.t (ob_fieldAddr fo_bind_Col_1 rfl) ?_
          refine RT.t (ob_loadG1 (enc := C3.cells) (sz := 3) (len := cols.length) (i := k) (j := 1) (y := cols.getD k c3D) sz_string rfl (by simp) (ha (by omega)) (c3_get (by omega)) (by omega) rfl) ?_
          refine RT.t (ob_move rfl) ?_
          refine RT.t (ob_move rfl) ?_
          refine RT.t (ob_indexAddr el_sl_bind_Col rfl (ha (by omega)) rfl (by omega) (by omega)) ?_
          refine RT.t (ob_fieldAddr fo_bind_Col_1 rfl) ?_
          refine RT.t (ob_loadG1 (enc := C3.cells) (sz := 3) (len := cols.length) (i := i) (j := 1) (y := cols.getD i c3D) sz_string rfl (by simp) (ha (by omega)) (c3_get (by omega)) (by omega) rfl) ?_
          refine RT.t (ob_seql rfl rfl) ?_
          refine RT.t (ob_move rfl) ?_
          refine RT.g rfl rfl rfl (fun hg => ob_move (.inl rfl)) ?_
          refine RT.g rfl rfl rfl (fun hg => ob_move (.inl rfl)) ?_
          refine RT.g rfl rfl rfl (fun hg => ob_indexAddr el_sl_bind_Col (.inr ⟨_, rfl, fun h => h⟩) (ha (by omega)) (.inr ⟨_, rfl, fun h => h⟩) (by omega) (by omega)) ?_
          refine RT.g rfl rfl rfl (fun hg => ob_fieldAddr fo_bind_Col_0 (.inr ⟨_, rfl, fun h => h⟩)) ?_
          refine RT.g rfl rfl rfl (fun hg => ob_loadG1 (enc := C3.cells) (sz := 3) (len := cols.length) (i := i) (j := 0) (y := cols.getD i c3D) sz_string (.inr ⟨_, rfl, fun h => h⟩) (by simp) (ha (by omega)) (c3_get (by omega)) (by omega) rfl) ?_
          refine RT.g rfl rfl rfl (fun hg => ob_seql (.inr ⟨_, rfl, fun h => h⟩) (.inl rfl)) ?_
          refine RT.g rfl rfl rfl (fun hg => ob_move (.inr ⟨_, rfl, fun h => h⟩)) ?_
          refine RT.gg rfl rfl rfl (fun hg => (ob_move (.inl rfl))) ?_
          refine RT.gg rfl rfl rfl (fun hg => (ob_move (.inl rfl))) ?_
          refine RT.gg rfl rfl rfl (fun hg => (ob_indexAddr el_sl_bind_Col (.inr ⟨_, rfl, fun h => h⟩) (ha (by omega)) (.inr ⟨_, rfl, fun h => h⟩) (by omega) (by omega))) ?_
          refine RT.gg rfl rfl rfl (fun hg => (ob_fieldAddr fo_bind_Col_0 (.inr ⟨_, rfl, fun h => h⟩))) ?_
          refine RT.gg rfl rfl rfl (fun hg => (ob_loadG1 (enc := C3.cells) (sz := 3) (len := cols.length) (i := k) (j := 0) (y := cols.getD k c3D) sz_string (.inr ⟨_, rfl, fun h => h⟩) (by simp) (ha (by omega)) (c3_get (by omega)) (by omega) rfl)) ?_
          refine RT.gg rfl rfl rfl (fun hg => (ob_move (.inl rfl))) ?_
          refine RT.gg rfl rfl rfl (fun hg => (ob_move (.inl rfl))) ?_
          refine RT.gg rfl rfl rfl (fun hg => (ob_indexAddr el_sl_bind_Col (.inr ⟨_, rfl, fun h => h⟩) (ha (by omega)) (.inr ⟨_, rfl, fun h => h⟩) (by omega) (by omega))) ?_
          refine RT.gg rfl rfl rfl (fun hg => (ob_fieldAddr fo_bind_Col_0 (.inr ⟨_, rfl, fun h => h⟩))) ?_
          refine RT.gg rfl rfl rfl (fun hg => (ob_loadG1 (enc := C3.cells) (sz := 3) (len := cols.length) (i := i) (j := 0) (y := cols.getD i c3D) sz_string (.inr ⟨_, rfl, fun h => h⟩) (by simp) (ha (by omega)) (c3_get (by omega)) (by omega) rfl)) ?_
          refine RT.gg rfl rfl rfl (fun hg => (ob_seql (.inr ⟨_, rfl, fun h => h⟩) (.inr ⟨_, rfl, fun h => h⟩))) ?_
          refine RT.g rfl rfl rfl (fun hg => ob_pickOr (.inr ⟨_, rfl, fun h => h⟩) (.inl rfl) (.inl rfl) (fun h => ⟨hg, h⟩)) ?_
          refine RT.t (ob_pickAnd rfl rfl rfl id) ?_
          refine RT.nil ?_
          refine FinS.nil0 ?_
          repeat (first | refine JX.next ?_ | refine JX.normal_block ?_)
          refine J.sel [7, 15, 16, 17, 130] (.cons rfl (.cons rfl (.cons rfl (.cons rfl (.cons rfl .nil))))) ?_
          repeat refine J.seq ?_
          refine J.cond rfl (fun ht130 => ?_) (fun ht130 => ?_)
          ·
            try simp only [decide_eq_true_eq, decide_eq_false_iff_not] at ht130
            repeat refine J.seq ?_
            refine J.plain ?_
            refine JO.t (ob_move rfl) rfl ?_
            refine JO.t (ob_addc (cc := n + 1) rfl rfl rfl (by omega) (by have h1 := List.countP_le_length (p := mtF (cols.getD i c3D).t (cols.getD i c3D).n) (l := cols.take k); rw [List.length_take] at h1; omega)) rfl ?_
            refine JO.t (ob_assign rfl) rfl ?_
            refine JO.nil ?_
            repeat (first | refine JX.next ?_ | refine JX.normal_block ?_)
            refine J.sel [7, 15, 16, 17] (.cons rfl (.cons rfl (.cons rfl (.cons rfl .nil)))) ?_
            repeat refine J.seq ?_
            refine J.plain ?_
            refine JO.t (ob_move rfl) rfl ?_
            refine JO.t (ob_addc (cc := ((k + 1 : Nat) : Int)) rfl rfl (by omega) (by omega) (by omega)) rfl ?_
            refine JO.t (ob_assign rfl) rfl ?_
            refine JO.nil ?_
            refine JX.roundS (k + 1, n + 1) ?_ ?_ [7, 15, 16, 17] ?_ ?_ ?_
            · exact ⟨by omega, by rw [cnt_take (by omega), if_pos (by unfold mtF; exact ht130)]; rw [hn]; push_cast; rfl⟩
            · exact (by omega)
            · exact (.cons rfl (.cons rfl (.cons rfl (.cons rfl .nil))))
            · repeat (first | exact .slnil | apply List.Sublist.cons_cons | apply List.Sublist.cons)
            · repeat (first | exact .slnil | apply List.Sublist.cons_cons | apply List.Sublist.cons)
          ·
            try simp only [decide_eq_true_eq, decide_eq_false_iff_not] at ht130
            refine J.skip ?_
            repeat (first | refine JX.next ?_ | refine JX.normal_block ?_)
            repeat refine J.seq ?_
            refine J.plain ?_
            refine JO.t (ob_move rfl) rfl ?_
            refine JO.t (ob_addc (cc := ((k + 1 : Nat) : Int)) rfl rfl (by omega) (by omega) (by omega)) rfl ?_
            refine JO.t (ob_assign rfl) rfl ?_
            refine JO.nil ?_
            refine JX.roundS (k + 1, n) ?_ ?_ [7, 15, 16, 17] ?_ ?_ ?_
            · exact ⟨by omega, by rw [cnt_take (by omega), if_neg (by unfold mtF; rw [ht130]; simp)]; rw [hn]; simp⟩
            · exact (by omega)
            · exact (.cons rfl (.cons rfl (.cons rfl (.cons rfl .nil))))
            · repeat (first | exact .slnil | apply List.Sublist.cons_cons | apply List.Sublist.cons)
            · repeat (first | exact .slnil | apply List.Sublist.cons_cons | apply List.Sublist.cons)
        ·
          try simp only [decide_eq_true_eq, decide_eq_false_iff_not] at ht96
          repeat refine J.seq ?_
          refine J.exit ?_
          repeat (first | refine JX.hit ?_ | refine JX.miss rfl ?_ | refine JX.exit_pass ?_)
          repeat (first | refine JX.next ?_ | refine JX.normal_block ?_)
          repeat refine J.seq ?_
          refine J.reg0 hmx (by kernel_rfl) (by kernel_rfl) ?_
          refine RT.t (ob_move rfl) ?_
          refine RT.t (ob_move rfl) ?_
          refine RT.t (ob_indexAddr el_sl_bind_Col rfl (ha (by omega)) rfl (by omega) (by omega)) ?_
          refine RT.t (ob_fieldAddr fo_bind_Col_0 rfl) ?_
          refine RT.t (ob_loadG1 (enc := C3.cells) (sz := 3) (len := cols.length) (i := i) (j := 0) (y := cols.getD i c3D) sz_string rfl (by simp) (ha (by omega)) (c3_get (by omega)) (by omega) rfl) ?_
          refine RT.t (ob_move rfl) ?_
          refine RT.t (ob_move rfl) ?_
          refine RT.t (ob_indexAddr el_sl_bind_Col rfl (ha (by omega)) rfl (by omega) (by omega)) ?_
          refine RT.t (ob_fieldAddr fo_bind_Col_1 rfl) ?_
          refine RT.t (ob_loadG1 (enc := C3.cells) (sz := 3) (len := cols.length) (i := i) (j := 1) (y := cols.getD i c3D) sz_string rfl (by simp) (ha (by omega)) (c3_get (by omega)) (by omega) rfl) ?_
          refine RT.t (ob_move rfl) ?_
          refine RT.t (ob_call rfl (c_bind_Find _ _ cols (by omega)) (.one rfl (.one rfl (.sub rfl (Sub.slFact (by simp)) .nil)))) ?_
          refine RT.t (ob_move rfl) ?_
          refine RT.t (ob_extract0 rfl) ?_
          refine RT.t (ob_extract1 rfl) ?_
          refine RT.t (ob_assign rfl) ?_
          refine RT.t (ob_assign rfl) ?_
          refine RT.nil ?_
          refine FinS.nil0 ?_
          repeat (first | refine JX.next ?_ | refine JX.normal_block ?_)
          refine J.sel [7, 15, 16, 18, 19] (.cons rfl (.cons rfl (.cons rfl (.cons rfl (.cons rfl .nil))))) ?_
          repeat refine J.seq ?_
          refine J.reg0 hmx (by kernel_rfl) (by kernel_rfl) ?_
          refine RT.t (ob_move rfl) ?_
          refine RT.t (ob_eql rfl rfl) ?_
          refine RT.t (ob_move rfl) ?_
          refine RT.t (ob_eql rfl rfl) ?_
          refine RT.t (ob_bneq un_bool rfl rfl) ?_
          refine RT.t (ob_move rfl) ?_
          refine RT.g rfl rfl rfl (fun hg => ob_move (.inl rfl)) ?_
          refine RT.g rfl rfl rfl (fun hg => ob_eql (.inr ⟨_, rfl, fun h => h⟩) (.inl rfl)) ?_
          refine RT.g rfl rfl rfl (fun hg => ob_move (.inr ⟨_, rfl, fun h => h⟩)) ?_
          refine RT.gg rfl rfl rfl (fun hg => (ob_move (.inl rfl))) ?_
          refine RT.gg rfl rfl rfl (fun hg => (ob_move (.inl rfl))) ?_
          refine RT.gg rfl rfl rfl (fun hg => (ob_neq (.inr ⟨_, rfl, fun h => h⟩) (.inr ⟨_, rfl, fun h => h⟩))) ?_
          refine RT.g rfl rfl rfl (fun hg => ob_pickAnd (.inr ⟨_, rfl, fun h => h⟩) (.inl rfl) (.inl rfl) (fun h => ⟨hg, h⟩)) ?_
          refine RT.t (ob_pickOr rfl rfl rfl id) ?_
          refine RT.nil ?_
          refine FinS.nil0 ?_
          repeat (first | refine JX.next ?_ | refine JX.normal_block ?_)
          refine J.sel [7, 15, 161] (.cons rfl (.cons rfl (.cons rfl .nil))) ?_
          repeat refine J.seq ?_
          refine J.cond rfl (fun ht161 => ?_) (fun ht161 => ?_)
          ·
            try simp only [decide_eq_true_eq, decide_eq_false_iff_not] at ht161
            repeat refine J.seq ?_
            refine J.plain ?_
            refine JO.t (ob_assign rfl) rfl ?_
            refine JO.nil ?_
            repeat (first | refine JX.next ?_ | refine JX.normal_block ?_)
            refine J.sel [6] (.cons rfl .nil) ?_
            repeat refine J.seq ?_
            refine J.ret ?_
            repeat (first | refine JX.ret_pass ?_ | refine JX.ret_block ?_)
            exact JX.ret1is rfl rfl (by (have hkl : k = cols.length := by omega); subst hkl; rw [List.take_length] at hn; subst hn; rw [find_cnt (by omega)] at ht161; cases ht161)
          ·
            try simp only [decide_eq_true_eq, decide_eq_false_iff_not] at ht161
            refine J.skip ?_
            repeat (first | refine JX.next ?_ | refine JX.normal_block ?_)
            repeat refine J.seq ?_
            refine J.plain ?_
            refine JO.t (ob_move rfl) rfl ?_
            refine JO.t (ob_addc (cc := ((i + 1 : Nat) : Int)) rfl rfl (by omega) (by omega) (by omega)) rfl ?_
            refine JO.t (ob_assign rfl) rfl ?_
            refine JO.nil ?_
            refine JX.roundS (i + 1) ?_ ?_ [7, 15] ?_ ?_ ?_
            · exact (by omega)
            · exact (by omega)
            · exact (.cons rfl (.cons rfl .nil))
            · repeat (first | exact .slnil | apply List.Sublist.cons_cons | apply List.Sublist.cons)
            · repeat (first | exact .slnil | apply List.Sublist.cons_cons | apply List.Sublist.cons)
      ·
        try simp only [decide_eq_true_eq, decide_eq_false_iff_not] at ht90
        repeat refine J.seq ?_
        refine J.exit ?_
        repeat (first | refine JX.hit ?_ | refine JX.miss rfl ?_ | refine JX.exit_pass ?_)
        repeat (first | refine JX.next ?_ | refine JX.normal_block ?_)
        repeat refine J.seq ?_
        refine J.plain ?_
        refine JO.t (ob_assign rfl) rfl ?_
        refine JO.nil ?_
        repeat (first | refine JX.next ?_ | refine JX.normal_block ?_)
        refine J.sel [6] (.cons rfl .nil) ?_
        repeat refine J.seq ?_
        refine J.ret ?_
        repeat (first | refine JX.ret_pass ?_ | refine JX.ret_block ?_)
        exact JX.ret1is rfl rfl (by rfl)
end Go.Proofs.Ytjlojkchgfeenaa
