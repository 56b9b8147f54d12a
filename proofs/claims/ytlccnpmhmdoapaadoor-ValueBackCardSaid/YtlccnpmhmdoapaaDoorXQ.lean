/- value: tuples written and read back: what the statement does. No condition. -/
import Derived.Test.YtlccnpmhmdoapaaDoorXP
import Derived.Test.YtlccnpmhmdoapaaDoorXG4
set_option maxRecDepth 20000
namespace Go.Proofs.YtlccnpmhmdoapaaDoor
open Go Go.Vc
open Go.Vl
theorem c_put_at {vs : List V3} (hr : ∀ v ∈ vs, I64 v.n) {r : List UInt8 × Int} (h : putLs vs = r) : CallTy Tryd.prog f_value_Put [.rep (SlG V3.cells 3 vs)] (.tup2 (.rep (SlC bC 1 r.1)) (.is (.int .i64 r.2))) := h ▸ c_value_Put vs hr
theorem back_c1 {l : List UInt8} (h : ((0 != (0 : Int)) || !seq (bl l) (bl l)) = true) : False := by rw [seq_self] at h; cases h
theorem back_c2 {l : List UInt8} {e : Int} (h : ((!seq (bl l) (bl l)) || (e != e)) = true) : False := by rw [seq_self] at h; simp at h
theorem back_c3 {vs : List V3} (h : ((0 != (0 : Int)) || !sameV vs vs) = true) : False := by rw [sameV_self] at h; cases h
theorem c_law01_ValueBack (vs : List V3) (l : List UInt8) (hr : ∀ v ∈ vs, I64 v.n) : CallF Tryd.prog f_law01_ValueBack [GF, TF] [.rep (SlG V3.cells 3 vs), .rep (SlC bC 1 l)] (.is (.bool true)) :=
CallF.of (fn := Tryd.f9) Tryd.func9 (n := 101) rfl rfl rfl (fun _ _ => by kernel_rfl) fun E W => by
  refine J.openSlC (s := 1) rfl (fun al nl cl ql ol hll hal hcl => ?_)
  subst hll
  repeat refine J.seq ?_
  refine J.plain ?_
  refine JO.t (ob_assign rfl) rfl ?_
  refine JO.nil ?_
  repeat (first | refine JX.next ?_ | refine JX.normal_block ?_)
  refine J.sel [0, 1] (.cons rfl (.cons rfl .nil)) ?_
  repeat refine J.seq ?_
  refine J.plain ?_
  refine JO.t (ob_callF rfl (c_law01_awake) (by simp) .nil) rfl ?_
  refine JO.t (ob_not rfl) rfl ?_
  refine JO.nil ?_
  repeat (first | refine JX.next ?_ | refine JX.normal_block ?_)
  refine J.sel [0, 1, 18] (.cons rfl (.cons rfl (.cons rfl .nil))) ?_
  repeat refine J.seq ?_
  refine J.cond rfl (fun ht18 => ?_) (fun ht18 => ?_)
  ·
    try simp only [decide_eq_true_eq, decide_eq_false_iff_not] at ht18
    repeat refine J.seq ?_
    refine J.plain ?_
    refine JO.t (ob_assign rfl) rfl ?_
    refine JO.nil ?_
    repeat (first | refine JX.next ?_ | refine JX.normal_block ?_)
    refine J.sel [4] (.cons rfl .nil) ?_
    repeat refine J.seq ?_
    refine J.ret ?_
    repeat (first | refine JX.ret_pass ?_ | refine JX.ret_block ?_)
    exact JX.ret1is rfl rfl (by simp at ht18)
  ·
    try simp only [decide_eq_true_eq, decide_eq_false_iff_not] at ht18
    refine J.skip ?_
    repeat (first | refine JX.next ?_ | refine JX.normal_block ?_)
    repeat refine J.seq ?_
    refine J.plain ?_
    refine JO.t (ob_move rfl) rfl ?_
    refine JO.t (ob_call rfl (c_value_Get l) (.sub rfl (Sub.slFactC (by repeat (first | exact List.mem_cons_self | apply List.mem_cons_of_mem)) hcl) .nil)) rfl ?_
    refine JO.t (ob_move rfl) rfl ?_
    refine JO.t (ob_extract0 rfl) rfl ?_
    refine JO.t (ob_extract1 rfl) rfl ?_
    refine JO.t (ob_assign rfl) rfl ?_
    refine JO.t (ob_assign rfl) rfl ?_
    refine JO.nil ?_
    repeat (first | refine JX.next ?_ | refine JX.normal_block ?_)
    refine J.sel [0, 1, 5, 6] (.cons rfl (.cons rfl (.cons rfl (.cons rfl .nil)))) ?_
    repeat refine J.seq ?_
    refine J.plain ?_
    refine JO.t (ob_move rfl) rfl ?_
    refine JO.t (ob_eql rfl rfl) rfl ?_
    refine JO.nil ?_
    repeat (first | refine JX.next ?_ | refine JX.normal_block ?_)
    refine J.sel [0, 1, 5, 25] (.cons rfl (.cons rfl (.cons rfl (.cons rfl .nil)))) ?_
    repeat refine J.seq ?_
    refine J.cond rfl (fun ht25 => ?_) (fun ht25 => ?_)
    ·
      try simp only [decide_eq_true_eq, decide_eq_false_iff_not] at ht25
      have gb := get_back (l := l) (by simpa using ht25)
      repeat refine J.seq ?_
      refine J.plain ?_
      refine JO.t (ob_move rfl) rfl ?_
      refine JO.t (ob_call rfl (c_put_at (fun v hv => (gb.2 v hv).2) gb.1) (.sub rfl (Sub.cg) .nil)) rfl ?_
      refine JO.t (ob_move rfl) rfl ?_
      refine JO.t (ob_extract0 rfl) rfl ?_
      refine JO.t (ob_extract1 rfl) rfl ?_
      refine JO.t (ob_assign rfl) rfl ?_
      refine JO.t (ob_assign rfl) rfl ?_
      refine JO.nil ?_
      repeat (first | refine JX.next ?_ | refine JX.normal_block ?_)
      refine J.sel [0, 1, 7, 8] (.cons rfl (.cons rfl (.cons rfl (.cons rfl .nil)))) ?_
      refine J.openSlC (s := 7) rfl (fun a7 n7 c7 q7 o7 hl7 ha7 hc7 => ?_)
      repeat refine J.seq ?_
      refine J.reg0 hmx (by kernel_rfl) (by kernel_rfl) ?_
      refine RT.t (ob_move rfl) ?_
      refine RT.t (ob_neq rfl rfl) ?_
      refine RT.t (ob_move rfl) ?_
      refine RT.g rfl rfl rfl (fun hg => ob_move (.inl rfl)) ?_
      refine RT.g rfl rfl rfl (fun hg => ob_str un_sl_uint8 un_uint8 un_string (.inr ⟨_, rfl, fun h => h⟩) (by repeat (first | exact List.mem_cons_self | apply List.mem_cons_of_mem))) ?_
      refine RT.g rfl rfl rfl (fun hg => ob_move (.inl rfl)) ?_
      refine RT.g rfl rfl rfl (fun hg => ob_str un_sl_uint8 un_uint8 un_string (.inr ⟨_, rfl, fun h => h⟩) (by repeat (first | exact List.mem_cons_self | apply List.mem_cons_of_mem))) ?_
      refine RT.g rfl rfl rfl (fun hg => ob_sneq (.inr ⟨_, rfl, fun h => h⟩) (.inr ⟨_, rfl, fun h => h⟩)) ?_
      refine RT.t (ob_pickOr rfl rfl rfl id) ?_
      refine RT.nil ?_
      refine FinS.nil0 ?_
      repeat (first | refine JX.next ?_ | refine JX.normal_block ?_)
      refine J.sel [0, 39] (.cons rfl (.cons rfl .nil)) ?_
      repeat refine J.seq ?_
      refine J.cond rfl (fun ht39 => ?_) (fun ht39 => ?_)
      ·
        try simp only [decide_eq_true_eq, decide_eq_false_iff_not] at ht39
        repeat refine J.seq ?_
        refine J.plain ?_
        refine JO.t (ob_assign rfl) rfl ?_
        refine JO.nil ?_
        repeat (first | refine JX.next ?_ | refine JX.normal_block ?_)
        refine J.sel [4] (.cons rfl .nil) ?_
        repeat refine J.seq ?_
        refine J.ret ?_
        repeat (first | refine JX.ret_pass ?_ | refine JX.ret_block ?_)
        exact JX.ret1is rfl rfl (by exact (back_c1 ht39).elim)
      ·
        try simp only [decide_eq_true_eq, decide_eq_false_iff_not] at ht39
        refine J.skip ?_
        repeat (first | refine JX.next ?_ | refine JX.normal_block ?_)
        repeat refine J.seq ?_
        refine J.plain ?_
        refine JO.t (ob_move rfl) rfl ?_
        refine JO.t (ob_call rfl (c_value_Put vs hr) (.one rfl .nil)) rfl ?_
        refine JO.t (ob_move rfl) rfl ?_
        refine JO.t (ob_extract0 rfl) rfl ?_
        refine JO.t (ob_extract1 rfl) rfl ?_
        refine JO.t (ob_assign rfl) rfl ?_
        refine JO.t (ob_assign rfl) rfl ?_
        refine JO.nil ?_
        repeat (first | refine JX.next ?_ | refine JX.normal_block ?_)
        refine J.sel [0, 6, 9] (.cons rfl (.cons rfl (.cons rfl .nil))) ?_
        repeat refine J.seq ?_
        refine J.plain ?_
        refine JO.t (ob_move rfl) rfl ?_
        refine JO.t (ob_call rfl (c_ref01_Put vs hr) (.one rfl .nil)) rfl ?_
        refine JO.t (ob_move rfl) rfl ?_
        refine JO.t (ob_extract0 rfl) rfl ?_
        refine JO.t (ob_extract1 rfl) rfl ?_
        refine JO.t (ob_assign rfl) rfl ?_
        refine JO.t (ob_assign rfl) rfl ?_
        refine JO.nil ?_
        repeat (first | refine JX.next ?_ | refine JX.normal_block ?_)
        refine J.sel [0, 6, 9, 10, 11] (.cons rfl (.cons rfl (.cons rfl (.cons rfl (.cons rfl .nil))))) ?_
        refine J.openSlC (s := 9) rfl (fun a9 n9 c9 q9 o9 hl9 ha9 hc9 => ?_)
        subst hl9
        refine J.openSlC (s := 10) rfl (fun a10 n10 c10 q10 o10 hl10 ha10 hc10 => ?_)
        repeat refine J.seq ?_
        refine J.reg0 hmx (by kernel_rfl) (by kernel_rfl) ?_
        refine RT.t (ob_move rfl) ?_
        refine RT.t (ob_str un_sl_uint8 un_uint8 un_string rfl (by repeat (first | exact List.mem_cons_self | apply List.mem_cons_of_mem))) ?_
        refine RT.t (ob_move rfl) ?_
        refine RT.t (ob_str un_sl_uint8 un_uint8 un_string rfl (by repeat (first | exact List.mem_cons_self | apply List.mem_cons_of_mem))) ?_
        refine RT.t (ob_sneq rfl rfl) ?_
        refine RT.t (ob_move rfl) ?_
        refine RT.g rfl rfl rfl (fun hg => ob_move (.inl rfl)) ?_
        refine RT.g rfl rfl rfl (fun hg => ob_move (.inl rfl)) ?_
        refine RT.g rfl rfl rfl (fun hg => ob_neq (.inr ⟨_, rfl, fun h => h⟩) (.inr ⟨_, rfl, fun h => h⟩)) ?_
        refine RT.t (ob_pickOr rfl rfl rfl id) ?_
        refine RT.nil ?_
        refine FinS.nil0 ?_
        repeat (first | refine JX.next ?_ | refine JX.normal_block ?_)
        refine J.sel [0, 6, 9, 59] (.cons rfl (.cons rfl (.cons rfl (.cons rfl .nil)))) ?_
        repeat refine J.seq ?_
        refine J.cond rfl (fun ht59 => ?_) (fun ht59 => ?_)
        ·
          try simp only [decide_eq_true_eq, decide_eq_false_iff_not] at ht59
          repeat refine J.seq ?_
          refine J.plain ?_
          refine JO.t (ob_assign rfl) rfl ?_
          refine JO.nil ?_
          repeat (first | refine JX.next ?_ | refine JX.normal_block ?_)
          refine J.sel [4] (.cons rfl .nil) ?_
          repeat refine J.seq ?_
          refine J.ret ?_
          repeat (first | refine JX.ret_pass ?_ | refine JX.ret_block ?_)
          exact JX.ret1is rfl rfl (by exact (back_c2 ht59).elim)
        ·
          try simp only [decide_eq_true_eq, decide_eq_false_iff_not] at ht59
          refine J.skip ?_
          repeat (first | refine JX.next ?_ | refine JX.normal_block ?_)
          repeat refine J.seq ?_
          refine J.plain ?_
          refine JO.t (ob_move rfl) rfl ?_
          refine JO.t (ob_neq rfl rfl) rfl ?_
          refine JO.nil ?_
          repeat (first | refine JX.next ?_ | refine JX.normal_block ?_)
          refine J.sel [0, 9, 61] (.cons rfl (.cons rfl (.cons rfl .nil))) ?_
          repeat refine J.seq ?_
          refine J.cond rfl (fun ht61 => ?_) (fun ht61 => ?_)
          ·
            try simp only [decide_eq_true_eq, decide_eq_false_iff_not] at ht61
            repeat refine J.seq ?_
            refine J.plain ?_
            refine JO.t (ob_assign rfl) rfl ?_
            refine JO.nil ?_
            repeat (first | refine JX.next ?_ | refine JX.normal_block ?_)
            refine J.sel [4] (.cons rfl .nil) ?_
            repeat refine J.seq ?_
            refine J.ret ?_
            repeat (first | refine JX.ret_pass ?_ | refine JX.ret_block ?_)
            exact JX.ret1is rfl rfl (by rfl)
          ·
            try simp only [decide_eq_true_eq, decide_eq_false_iff_not] at ht61
            refine J.skip ?_
            repeat (first | refine JX.next ?_ | refine JX.normal_block ?_)
            have hok : (putLs vs).2 = 0 := by simpa using ht61
            have hq := putLs_ok hok
            have hpl := put_len hok
            have hq1 := hq.1
            repeat refine J.seq ?_
            refine J.plain ?_
            refine JO.t (ob_move rfl) rfl ?_
            refine JO.t (ob_call rfl (c_get_at (back_get hok hr)) (.sub rfl (Sub.slFactC (by repeat (first | exact List.mem_cons_self | apply List.mem_cons_of_mem)) hc9) .nil)) rfl ?_
            refine JO.t (ob_move rfl) rfl ?_
            refine JO.t (ob_extract0 rfl) rfl ?_
            refine JO.t (ob_extract1 rfl) rfl ?_
            refine JO.t (ob_assign rfl) rfl ?_
            refine JO.t (ob_assign rfl) rfl ?_
            refine JO.nil ?_
            repeat (first | refine JX.next ?_ | refine JX.normal_block ?_)
            refine J.sel [0, 5, 6, 9] (.cons rfl (.cons rfl (.cons rfl (.cons rfl .nil)))) ?_
            repeat refine J.seq ?_
            refine J.reg0 hmx (by kernel_rfl) (by kernel_rfl) ?_
            refine RT.t (ob_move rfl) ?_
            refine RT.t (ob_neq rfl rfl) ?_
            refine RT.t (ob_move rfl) ?_
            refine RT.g rfl rfl rfl (fun hg => ob_move (.inl rfl)) ?_
            refine RT.g rfl rfl rfl (fun hg => ob_move (.inl rfl)) ?_
            refine RT.g rfl rfl rfl (fun hg => ob_call (.inl rfl) (c_ref01_Same vs vs (by omega)) (.sub (.inr ⟨_, rfl, fun h => h⟩) (Sub.cg) (.one (.inr ⟨_, rfl, fun h => h⟩) .nil))) ?_
            refine RT.g rfl rfl rfl (fun hg => ob_not (.inr ⟨_, rfl, fun h => h⟩)) ?_
            refine RT.t (ob_pickOr rfl rfl rfl id) ?_
            refine RT.nil ?_
            refine FinS.nil0 ?_
            repeat (first | refine JX.next ?_ | refine JX.normal_block ?_)
            refine J.sel [9, 74] (.cons rfl (.cons rfl .nil)) ?_
            repeat refine J.seq ?_
            refine J.cond rfl (fun ht74 => ?_) (fun ht74 => ?_)
            ·
              try simp only [decide_eq_true_eq, decide_eq_false_iff_not] at ht74
              repeat refine J.seq ?_
              refine J.plain ?_
              refine JO.t (ob_assign rfl) rfl ?_
              refine JO.nil ?_
              repeat (first | refine JX.next ?_ | refine JX.normal_block ?_)
              refine J.sel [4] (.cons rfl .nil) ?_
              repeat refine J.seq ?_
              refine J.ret ?_
              repeat (first | refine JX.ret_pass ?_ | refine JX.ret_block ?_)
              exact JX.ret1is rfl rfl (by exact (back_c3 ht74).elim)
            ·
              try simp only [decide_eq_true_eq, decide_eq_false_iff_not] at ht74
              refine J.skip ?_
              repeat (first | refine JX.next ?_ | refine JX.normal_block ?_)
              repeat refine J.seq ?_
              refine J.plain ?_
              refine JO.t (ob_assign rfl) rfl ?_
              refine JO.nil ?_
              repeat (first | refine JX.next ?_ | refine JX.normal_block ?_)
              refine J.sel [9, 12] (.cons rfl (.cons rfl .nil)) ?_
              repeat refine J.seq ?_
              refine J.block ?_
              repeat refine J.seq ?_
              refine J.loopF (α := Nat) (fun i => [(9, .is (.slice a9 (putLs vs).1.length c9)), (12, .is (.int .i64 (i : Nat)))]) (fun i => i ≤ (putLs vs).1.length) (fun i => (putLs vs).1.length - i) 0 [9, 12] (.cons rfl (.cons rfl .nil)) (Nat.zero_le _) fun i hi => ?_
              repeat refine J.seq ?_
              refine J.plain ?_
              refine JO.t (ob_move rfl) rfl ?_
              refine JO.t (ob_move rfl) rfl ?_
              refine JO.t (ob_len un_sl_uint8 rfl) rfl ?_
              refine JO.t (ob_lss rfl rfl) rfl ?_
              refine JO.nil ?_
              repeat (first | refine JX.next ?_ | refine JX.normal_block ?_)
              refine J.sel [9, 12, 78] (.cons rfl (.cons rfl (.cons rfl .nil))) ?_
              repeat refine J.seq ?_
              refine J.cond rfl (fun ht78 => ?_) (fun ht78 => ?_)
              ·
                try simp only [decide_eq_true_eq, decide_eq_false_iff_not] at ht78
                refine J.skip ?_
                repeat (first | refine JX.next ?_ | refine JX.normal_block ?_)
                repeat refine J.seq ?_
                refine J.block ?_
                refine J.fact (RowG bC 1 ((putLs vs).1.take i) a9 i) (fun E w hF _ => fun w1 hk => rowG_take (hF (RowG bC 1 (putLs vs).1 a9 (putLs vs).1.length) (by repeat (first | exact List.mem_cons_self | apply List.mem_cons_of_mem)) w1 hk) hi) ?_
                repeat refine J.seq ?_
                refine J.plain ?_
                refine JO.t (ob_move rfl) rfl ?_
                refine JO.t (ob_move rfl) rfl ?_
                refine JO.t (ob_sliceHi un_sl_uint8 el_sl_uint8 rfl rfl (by omega) (by omega)) rfl ?_
                refine JO.t (ob_call rfl (c_get_at (back_cut hok hr (i := i) (by omega))) (.sub rfl (Sub.slFactC (by repeat (first | exact List.mem_cons_self | apply List.mem_cons_of_mem)) (by omega)) .nil)) rfl ?_
                refine JO.t (ob_move rfl) rfl ?_
                refine JO.t (ob_extract0 rfl) rfl ?_
                refine JO.t (ob_extract1 rfl) rfl ?_
                refine JO.t (ob_assign rfl) rfl ?_
                refine JO.t (ob_assign rfl) rfl ?_
                refine JO.nil ?_
                repeat (first | refine JX.next ?_ | refine JX.normal_block ?_)
                refine J.sel [9, 12, 14] (.cons rfl (.cons rfl (.cons rfl .nil))) ?_
                repeat refine J.seq ?_
                refine J.plain ?_
                refine JO.t (ob_move rfl) rfl ?_
                refine JO.t (ob_neq rfl rfl) rfl ?_
                refine JO.nil ?_
                repeat (first | refine JX.next ?_ | refine JX.normal_block ?_)
                refine J.sel [9, 12, 89] (.cons rfl (.cons rfl (.cons rfl .nil))) ?_
                repeat refine J.seq ?_
                refine J.cond rfl (fun ht89 => ?_) (fun ht89 => ?_)
                ·
                  try simp only [decide_eq_true_eq, decide_eq_false_iff_not] at ht89
                  repeat refine J.seq ?_
                  refine J.plain ?_
                  refine JO.t (ob_assign rfl) rfl ?_
                  refine JO.nil ?_
                  repeat (first | refine JX.next ?_ | refine JX.normal_block ?_)
                  refine J.sel [4] (.cons rfl .nil) ?_
                  repeat refine J.seq ?_
                  refine J.ret ?_
                  repeat (first | refine JX.ret_pass ?_ | refine JX.ret_block ?_)
                  exact JX.ret1is rfl rfl (by simp at ht89)
                ·
                  try simp only [decide_eq_true_eq, decide_eq_false_iff_not] at ht89
                  refine J.skip ?_
                  repeat (first | refine JX.next ?_ | refine JX.normal_block ?_)
                  repeat refine J.seq ?_
                  refine J.plain ?_
                  refine JO.t (ob_move rfl) rfl ?_
                  refine JO.t (ob_addc (cc := ((i + 1 : Nat) : Int)) rfl rfl (by omega) (by omega) (by omega)) rfl ?_
                  refine JO.t (ob_assign rfl) rfl ?_
                  refine JO.nil ?_
                  repeat refine JX.normal_block ?_
                  refine JX.roundS (i + 1) ?_ ?_ [9, 12] ?_ ?_ ?_
                  · exact (by omega)
                  · exact (by omega)
                  · exact (.cons rfl (.cons rfl .nil))
                  · repeat (first | exact .slnil | apply List.Sublist.cons_cons | apply List.Sublist.cons)
                  · repeat (first | exact .slnil | apply List.Sublist.cons_cons | apply List.Sublist.cons)
              ·
                try simp only [decide_eq_true_eq, decide_eq_false_iff_not] at ht78
                repeat refine J.seq ?_
                refine J.exit ?_
                repeat (first | refine JX.hit ?_ | refine JX.miss rfl ?_ | refine JX.exit_pass ?_)
                repeat (first | refine JX.next ?_ | refine JX.normal_block ?_)
                repeat refine J.seq ?_
                refine J.plain ?_
                refine JO.buildOwn0 sl_sl_uint8 rfl (fun b91 => ?_)
                refine JO.t (ob_move rfl) rfl ?_
                refine JO.apS ((putLs vs).1) ap_sl_uint8 (by repeat (first | exact .here | apply Cx.past | apply Cx.there)) (xs := []) ⟨rfl, Nat.le_refl _, rfl⟩ rfl rfl (fun L => src_slF bC_len (by omega) bC_one un_sl_uint8 (by repeat (first | exact List.mem_cons_self | apply List.mem_cons_of_mem))) (by simp; omega) (by simp; omega) rfl (fun p1 cp1 hG1 => ?_)
                try dsimp only
                rw [List.nil_append] at hG1 ⊢
                refine JO.t (ob_buildSlice (cs := [_]) sl_sl_uint8 (by omega) (by omega) (.cons rfl .nil) rfl rfl rfl) rfl ?_
                refine JO.apS ([0]) ap_sl_uint8 (by repeat (first | exact .here | apply Cx.past | apply Cx.there)) hG1 rfl rfl (fun L => src_new un_sl_uint8 rfl rfl) (by simp; omega) (by simp; omega) rfl (fun p2 cp2 hG2 => ?_)
                try dsimp only
                obtain ⟨b2, cs2⟩ := p2
                obtain ⟨k1, k2, k3⟩ := hG2
                dsimp only [sliceO, ownO]
                refine JO.freeze (b := b2) (e := ty_uint8) (cs := cs2) (fun _ h => h) rfl rfl ?_
                refine JO.fact (RowG bC 1 ((putLs vs).1 ++ [0]) (some ⟨b2, 0, none⟩) ((putLs vs).1 ++ [0]).length) (fun E w hF _ => fun w1 hk => row_own bC_len rfl k3 (hF _ List.mem_cons_self w1 hk)) ?_
                refine JO.t (ob_call rfl (c_get_at (back_more hok hr 0)) (.sub rfl (Sub.slFactC (by repeat (first | exact List.mem_cons_self | apply List.mem_cons_of_mem)) k2) .nil)) rfl ?_
                refine JO.t (ob_move rfl) rfl ?_
                refine JO.t (ob_extract0 rfl) rfl ?_
                refine JO.t (ob_extract1 rfl) rfl ?_
                refine JO.t (ob_assign rfl) rfl ?_
                refine JO.t (ob_assign rfl) rfl ?_
                refine JO.nil ?_
                repeat (first | refine JX.next ?_ | refine JX.normal_block ?_)
                refine J.sel [16] (.cons rfl .nil) ?_
                repeat refine J.seq ?_
                refine J.plain ?_
                refine JO.t (ob_move rfl) rfl ?_
                refine JO.t (ob_eql rfl rfl) rfl ?_
                refine JO.t (ob_assign rfl) rfl ?_
                refine JO.nil ?_
                repeat (first | refine JX.next ?_ | refine JX.normal_block ?_)
                refine J.sel [4] (.cons rfl .nil) ?_
                repeat refine J.seq ?_
                refine J.ret ?_
                repeat (first | refine JX.ret_pass ?_ | refine JX.ret_block ?_)
                exact JX.ret1is rfl rfl (by rfl)
    ·
      try simp only [decide_eq_true_eq, decide_eq_false_iff_not] at ht25
      refine J.skip ?_
      repeat (first | refine JX.next ?_ | refine JX.normal_block ?_)
      repeat refine J.seq ?_
      refine J.plain ?_
      refine JO.t (ob_move rfl) rfl ?_
      refine JO.t (ob_call rfl (c_value_Put vs hr) (.one rfl .nil)) rfl ?_
      refine JO.t (ob_move rfl) rfl ?_
      refine JO.t (ob_extract0 rfl) rfl ?_
      refine JO.t (ob_extract1 rfl) rfl ?_
      refine JO.t (ob_assign rfl) rfl ?_
      refine JO.t (ob_assign rfl) rfl ?_
      refine JO.nil ?_
      repeat (first | refine JX.next ?_ | refine JX.normal_block ?_)
      refine J.sel [0, 6, 9] (.cons rfl (.cons rfl (.cons rfl .nil))) ?_
      repeat refine J.seq ?_
      refine J.plain ?_
      refine JO.t (ob_move rfl) rfl ?_
      refine JO.t (ob_call rfl (c_ref01_Put vs hr) (.one rfl .nil)) rfl ?_
      refine JO.t (ob_move rfl) rfl ?_
      refine JO.t (ob_extract0 rfl) rfl ?_
      refine JO.t (ob_extract1 rfl) rfl ?_
      refine JO.t (ob_assign rfl) rfl ?_
      refine JO.t (ob_assign rfl) rfl ?_
      refine JO.nil ?_
      repeat (first | refine JX.next ?_ | refine JX.normal_block ?_)
      refine J.sel [0, 6, 9, 10, 11] (.cons rfl (.cons rfl (.cons rfl (.cons rfl (.cons rfl .nil))))) ?_
      refine J.openSlC (s := 9) rfl (fun a9 n9 c9 q9 o9 hl9 ha9 hc9 => ?_)
      subst hl9
      refine J.openSlC (s := 10) rfl (fun a10 n10 c10 q10 o10 hl10 ha10 hc10 => ?_)
      repeat refine J.seq ?_
      refine J.reg0 hmx (by kernel_rfl) (by kernel_rfl) ?_
      refine RT.t (ob_move rfl) ?_
      refine RT.t (ob_str un_sl_uint8 un_uint8 un_string rfl (by repeat (first | exact List.mem_cons_self | apply List.mem_cons_of_mem))) ?_
      refine RT.t (ob_move rfl) ?_
      refine RT.t (ob_str un_sl_uint8 un_uint8 un_string rfl (by repeat (first | exact List.mem_cons_self | apply List.mem_cons_of_mem))) ?_
      refine RT.t (ob_sneq rfl rfl) ?_
      refine RT.t (ob_move rfl) ?_
      refine RT.g rfl rfl rfl (fun hg => ob_move (.inl rfl)) ?_
      refine RT.g rfl rfl rfl (fun hg => ob_move (.inl rfl)) ?_
      refine RT.g rfl rfl rfl (fun hg => ob_neq (.inr ⟨_, rfl, fun h => h⟩) (.inr ⟨_, rfl, fun h => h⟩)) ?_
      refine RT.t (ob_pickOr rfl rfl rfl id) ?_
      refine RT.nil ?_
      refine FinS.nil0 ?_
      repeat (first | refine JX.next ?_ | refine JX.normal_block ?_)
      refine J.sel [0, 6, 9, 59] (.cons rfl (.cons rfl (.cons rfl (.cons rfl .nil)))) ?_
      repeat refine J.seq ?_
      refine J.cond rfl (fun ht59 => ?_) (fun ht59 => ?_)
      ·
        try simp only [decide_eq_true_eq, decide_eq_false_iff_not] at ht59
        repeat refine J.seq ?_
        refine J.plain ?_
        refine JO.t (ob_assign rfl) rfl ?_
        refine JO.nil ?_
        repeat (first | refine JX.next ?_ | refine JX.normal_block ?_)
        refine J.sel [4] (.cons rfl .nil) ?_
        repeat refine J.seq ?_
        refine J.ret ?_
        repeat (first | refine JX.ret_pass ?_ | refine JX.ret_block ?_)
        exact JX.ret1is rfl rfl (by exact (back_c2 ht59).elim)
      ·
        try simp only [decide_eq_true_eq, decide_eq_false_iff_not] at ht59
        refine J.skip ?_
        repeat (first | refine JX.next ?_ | refine JX.normal_block ?_)
        repeat refine J.seq ?_
        refine J.plain ?_
        refine JO.t (ob_move rfl) rfl ?_
        refine JO.t (ob_neq rfl rfl) rfl ?_
        refine JO.nil ?_
        repeat (first | refine JX.next ?_ | refine JX.normal_block ?_)
        refine J.sel [0, 9, 61] (.cons rfl (.cons rfl (.cons rfl .nil))) ?_
        repeat refine J.seq ?_
        refine J.cond rfl (fun ht61 => ?_) (fun ht61 => ?_)
        ·
          try simp only [decide_eq_true_eq, decide_eq_false_iff_not] at ht61
          repeat refine J.seq ?_
          refine J.plain ?_
          refine JO.t (ob_assign rfl) rfl ?_
          refine JO.nil ?_
          repeat (first | refine JX.next ?_ | refine JX.normal_block ?_)
          refine J.sel [4] (.cons rfl .nil) ?_
          repeat refine J.seq ?_
          refine J.ret ?_
          repeat (first | refine JX.ret_pass ?_ | refine JX.ret_block ?_)
          exact JX.ret1is rfl rfl (by rfl)
        ·
          try simp only [decide_eq_true_eq, decide_eq_false_iff_not] at ht61
          refine J.skip ?_
          repeat (first | refine JX.next ?_ | refine JX.normal_block ?_)
          have hok : (putLs vs).2 = 0 := by simpa using ht61
          have hq := putLs_ok hok
          have hpl := put_len hok
          have hq1 := hq.1
          repeat refine J.seq ?_
          refine J.plain ?_
          refine JO.t (ob_move rfl) rfl ?_
          refine JO.t (ob_call rfl (c_get_at (back_get hok hr)) (.sub rfl (Sub.slFactC (by repeat (first | exact List.mem_cons_self | apply List.mem_cons_of_mem)) hc9) .nil)) rfl ?_
          refine JO.t (ob_move rfl) rfl ?_
          refine JO.t (ob_extract0 rfl) rfl ?_
          refine JO.t (ob_extract1 rfl) rfl ?_
          refine JO.t (ob_assign rfl) rfl ?_
          refine JO.t (ob_assign rfl) rfl ?_
          refine JO.nil ?_
          repeat (first | refine JX.next ?_ | refine JX.normal_block ?_)
          refine J.sel [0, 5, 6, 9] (.cons rfl (.cons rfl (.cons rfl (.cons rfl .nil)))) ?_
          repeat refine J.seq ?_
          refine J.reg0 hmx (by kernel_rfl) (by kernel_rfl) ?_
          refine RT.t (ob_move rfl) ?_
          refine RT.t (ob_neq rfl rfl) ?_
          refine RT.t (ob_move rfl) ?_
          refine RT.g rfl rfl rfl (fun hg => ob_move (.inl rfl)) ?_
          refine RT.g rfl rfl rfl (fun hg => ob_move (.inl rfl)) ?_
          refine RT.g rfl rfl rfl (fun hg => ob_call (.inl rfl) (c_ref01_Same vs vs (by omega)) (.sub (.inr ⟨_, rfl, fun h => h⟩) (Sub.cg) (.one (.inr ⟨_, rfl, fun h => h⟩) .nil))) ?_
          refine RT.g rfl rfl rfl (fun hg => ob_not (.inr ⟨_, rfl, fun h => h⟩)) ?_
          refine RT.t (ob_pickOr rfl rfl rfl id) ?_
          refine RT.nil ?_
          refine FinS.nil0 ?_
          repeat (first | refine JX.next ?_ | refine JX.normal_block ?_)
          refine J.sel [9, 74] (.cons rfl (.cons rfl .nil)) ?_
          repeat refine J.seq ?_
          refine J.cond rfl (fun ht74 => ?_) (fun ht74 => ?_)
          ·
            try simp only [decide_eq_true_eq, decide_eq_false_iff_not] at ht74
            repeat refine J.seq ?_
            refine J.plain ?_
            refine JO.t (ob_assign rfl) rfl ?_
            refine JO.nil ?_
            repeat (first | refine JX.next ?_ | refine JX.normal_block ?_)
            refine J.sel [4] (.cons rfl .nil) ?_
            repeat refine J.seq ?_
            refine J.ret ?_
            repeat (first | refine JX.ret_pass ?_ | refine JX.ret_block ?_)
            exact JX.ret1is rfl rfl (by exact (back_c3 ht74).elim)
          ·
            try simp only [decide_eq_true_eq, decide_eq_false_iff_not] at ht74
            refine J.skip ?_
            repeat (first | refine JX.next ?_ | refine JX.normal_block ?_)
            repeat refine J.seq ?_
            refine J.plain ?_
            refine JO.t (ob_assign rfl) rfl ?_
            refine JO.nil ?_
            repeat (first | refine JX.next ?_ | refine JX.normal_block ?_)
            refine J.sel [9, 12] (.cons rfl (.cons rfl .nil)) ?_
            repeat refine J.seq ?_
            refine J.block ?_
            repeat refine J.seq ?_
            refine J.loopF (α := Nat) (fun i => [(9, .is (.slice a9 (putLs vs).1.length c9)), (12, .is (.int .i64 (i : Nat)))]) (fun i => i ≤ (putLs vs).1.length) (fun i => (putLs vs).1.length - i) 0 [9, 12] (.cons rfl (.cons rfl .nil)) (Nat.zero_le _) fun i hi => ?_
            repeat refine J.seq ?_
            refine J.plain ?_
            refine JO.t (ob_move rfl) rfl ?_
            refine JO.t (ob_move rfl) rfl ?_
            refine JO.t (ob_len un_sl_uint8 rfl) rfl ?_
            refine JO.t (ob_lss rfl rfl) rfl ?_
            refine JO.nil ?_
            repeat (first | refine JX.next ?_ | refine JX.normal_block ?_)
            refine J.sel [9, 12, 78] (.cons rfl (.cons rfl (.cons rfl .nil))) ?_
            repeat refine J.seq ?_
            refine J.cond rfl (fun ht78 => ?_) (fun ht78 => ?_)
            ·
              try simp only [decide_eq_true_eq, decide_eq_false_iff_not] at ht78
              refine J.skip ?_
              repeat (first | refine JX.next ?_ | refine JX.normal_block ?_)
              repeat refine J.seq ?_
              refine J.block ?_
              refine J.fact (RowG bC 1 ((putLs vs).1.take i) a9 i) (fun E w hF _ => fun w1 hk => rowG_take (hF (RowG bC 1 (putLs vs).1 a9 (putLs vs).1.length) (by repeat (first | exact List.mem_cons_self | apply List.mem_cons_of_mem)) w1 hk) hi) ?_
              repeat refine J.seq ?_
              refine J.plain ?_
              refine JO.t (ob_move rfl) rfl ?_
              refine JO.t (ob_move rfl) rfl ?_
              refine JO.t (ob_sliceHi un_sl_uint8 el_sl_uint8 rfl rfl (by omega) (by omega)) rfl ?_
              refine JO.t (ob_call rfl (c_get_at (back_cut hok hr (i := i) (by omega))) (.sub rfl (Sub.slFactC (by repeat (first | exact List.mem_cons_self | apply List.mem_cons_of_mem)) (by omega)) .nil)) rfl ?_
              refine JO.t (ob_move rfl) rfl ?_
              refine JO.t (ob_extract0 rfl) rfl ?_
              refine JO.t (ob_extract1 rfl) rfl ?_
              refine JO.t (ob_assign rfl) rfl ?_
              refine JO.t (ob_assign rfl) rfl ?_
              refine JO.nil ?_
              repeat (first | refine JX.next ?_ | refine JX.normal_block ?_)
              refine J.sel [9, 12, 14] (.cons rfl (.cons rfl (.cons rfl .nil))) ?_
              repeat refine J.seq ?_
              refine J.plain ?_
              refine JO.t (ob_move rfl) rfl ?_
              refine JO.t (ob_neq rfl rfl) rfl ?_
              refine JO.nil ?_
              repeat (first | refine JX.next ?_ | refine JX.normal_block ?_)
              refine J.sel [9, 12, 89] (.cons rfl (.cons rfl (.cons rfl .nil))) ?_
              repeat refine J.seq ?_
              refine J.cond rfl (fun ht89 => ?_) (fun ht89 => ?_)
              ·
                try simp only [decide_eq_true_eq, decide_eq_false_iff_not] at ht89
                repeat refine J.seq ?_
                refine J.plain ?_
                refine JO.t (ob_assign rfl) rfl ?_
                refine JO.nil ?_
                repeat (first | refine JX.next ?_ | refine JX.normal_block ?_)
                refine J.sel [4] (.cons rfl .nil) ?_
                repeat refine J.seq ?_
                refine J.ret ?_
                repeat (first | refine JX.ret_pass ?_ | refine JX.ret_block ?_)
                exact JX.ret1is rfl rfl (by simp at ht89)
              ·
                try simp only [decide_eq_true_eq, decide_eq_false_iff_not] at ht89
                refine J.skip ?_
                repeat (first | refine JX.next ?_ | refine JX.normal_block ?_)
                repeat refine J.seq ?_
                refine J.plain ?_
                refine JO.t (ob_move rfl) rfl ?_
                refine JO.t (ob_addc (cc := ((i + 1 : Nat) : Int)) rfl rfl (by omega) (by omega) (by omega)) rfl ?_
                refine JO.t (ob_assign rfl) rfl ?_
                refine JO.nil ?_
                repeat refine JX.normal_block ?_
                refine JX.roundS (i + 1) ?_ ?_ [9, 12] ?_ ?_ ?_
                · exact (by omega)
                · exact (by omega)
                · exact (.cons rfl (.cons rfl .nil))
                · repeat (first | exact .slnil | apply List.Sublist.cons_cons | apply List.Sublist.cons)
                · repeat (first | exact .slnil | apply List.Sublist.cons_cons | apply List.Sublist.cons)
            ·
              try simp only [decide_eq_true_eq, decide_eq_false_iff_not] at ht78
              repeat refine J.seq ?_
              refine J.exit ?_
              repeat (first | refine JX.hit ?_ | refine JX.miss rfl ?_ | refine JX.exit_pass ?_)
              repeat (first | refine JX.next ?_ | refine JX.normal_block ?_)
              repeat refine J.seq ?_
              refine J.plain ?_
              refine JO.buildOwn0 sl_sl_uint8 rfl (fun b91 => ?_)
              refine JO.t (ob_move rfl) rfl ?_
              refine JO.apS ((putLs vs).1) ap_sl_uint8 (by repeat (first | exact .here | apply Cx.past | apply Cx.there)) (xs := []) ⟨rfl, Nat.le_refl _, rfl⟩ rfl rfl (fun L => src_slF bC_len (by omega) bC_one un_sl_uint8 (by repeat (first | exact List.mem_cons_self | apply List.mem_cons_of_mem))) (by simp; omega) (by simp; omega) rfl (fun p1 cp1 hG1 => ?_)
              try dsimp only
              rw [List.nil_append] at hG1 ⊢
              refine JO.t (ob_buildSlice (cs := [_]) sl_sl_uint8 (by omega) (by omega) (.cons rfl .nil) rfl rfl rfl) rfl ?_
              refine JO.apS ([0]) ap_sl_uint8 (by repeat (first | exact .here | apply Cx.past | apply Cx.there)) hG1 rfl rfl (fun L => src_new un_sl_uint8 rfl rfl) (by simp; omega) (by simp; omega) rfl (fun p2 cp2 hG2 => ?_)
              try dsimp only
              obtain ⟨b2, cs2⟩ := p2
              obtain ⟨k1, k2, k3⟩ := hG2
              dsimp only [sliceO, ownO]
              refine JO.freeze (b := b2) (e := ty_uint8) (cs := cs2) (fun _ h => h) rfl rfl ?_
              refine JO.fact (RowG bC 1 ((putLs vs).1 ++ [0]) (some ⟨b2, 0, none⟩) ((putLs vs).1 ++ [0]).length) (fun E w hF _ => fun w1 hk => row_own bC_len rfl k3 (hF _ List.mem_cons_self w1 hk)) ?_
              refine JO.t (ob_call rfl (c_get_at (back_more hok hr 0)) (.sub rfl (Sub.slFactC (by repeat (first | exact List.mem_cons_self | apply List.mem_cons_of_mem)) k2) .nil)) rfl ?_
              refine JO.t (ob_move rfl) rfl ?_
              refine JO.t (ob_extract0 rfl) rfl ?_
              refine JO.t (ob_extract1 rfl) rfl ?_
              refine JO.t (ob_assign rfl) rfl ?_
              refine JO.t (ob_assign rfl) rfl ?_
              refine JO.nil ?_
              repeat (first | refine JX.next ?_ | refine JX.normal_block ?_)
              refine J.sel [16] (.cons rfl .nil) ?_
              repeat refine J.seq ?_
              refine J.plain ?_
              refine JO.t (ob_move rfl) rfl ?_
              refine JO.t (ob_eql rfl rfl) rfl ?_
              refine JO.t (ob_assign rfl) rfl ?_
              refine JO.nil ?_
              repeat (first | refine JX.next ?_ | refine JX.normal_block ?_)
              refine J.sel [4] (.cons rfl .nil) ?_
              repeat refine J.seq ?_
              refine J.ret ?_
              repeat (first | refine JX.ret_pass ?_ | refine JX.ret_block ?_)
              exact JX.ret1is rfl rfl (by rfl)
end Go.Proofs.YtlccnpmhmdoapaaDoor
