/- group: what tellers tell; a teller made. No condition. -/
import Derived.Test.YtgpikmonklainaaXGI
set_option maxRecDepth 20000
namespace Go.Proofs.Ytgpikmonklainaa
open Go Go.Vc
open Go.Vl Go.Od
def adT (n S : Int) : V3 × Int := if n = 0 then (v30, 0) else if -9223372036854775808 ≤ S ∧ S < 9223372036854775808 then (⟨1, S, e0⟩, 0) else (v30, 35)
theorem c_p_group_adder_tell (b : Nat) (n S : Int) (hS : -170141183460469231731687303715884105728 ≤ S ∧ S < 170141183460469231731687303715884105728) : CallL Try.prog f_p_group_adder_tell ([⟨b, ty_group_adder, .is (.agg ([.int .i64 n, .int .u64 (hiS S), .int .u64 (loS S)]).toArray)⟩]) [] [.is (.pointer (some ⟨b, 0, none⟩))] (fun _ : Unit => True) (fun _ => [⟨b, ty_group_adder, .is (.agg ([.int .i64 n, .int .u64 (hiS S), .int .u64 (loS S)]).toArray)⟩]) (fun _ => .is (.tuple #[.agg #[.int .i64 (adT n S).1.k, .int .i64 (adT n S).1.n, .string (adT n S).1.s], .int .i64 (adT n S).2])) :=
CallL.of (fn := Try.f88) Try.func88 (n := 32) rfl rfl rfl (fun _ _ => by kernel_rfl) fun E W hb0 => by
  repeat refine J.seq ?_
  refine J.plain ?_
  refine JO.alloc zo_api_Value rfl fun b2 => ?_
  refine JO.t (ob_assign rfl) rfl ?_
  refine JO.nil ?_
  repeat (first | refine JX.next ?_ | refine JX.normal_block ?_)
  refine J.sel [0, 2] (.cons rfl (.cons rfl .nil)) ?_
  repeat refine J.seq ?_
  refine J.block ?_
  repeat refine J.seq ?_
  refine J.plain ?_
  refine JO.t (ob_move rfl) rfl ?_
  refine JO.t (ob_nilCheck rfl) rfl ?_
  refine JO.t (ob_fieldAddr fo_group_adder_0 rfl) rfl ?_
  refine JO.t (ob_fieldAddr fo_group_counter_0 rfl) rfl ?_
  refine JO.t (ob_ld1 sz_int64 rfl rfl) rfl ?_
  refine JO.t (ob_eql rfl rfl) rfl ?_
  refine JO.t (ob_assign rfl) rfl ?_
  refine JO.nil ?_
  repeat (first | refine JX.next ?_ | refine JX.normal_block ?_)
  refine J.sel [0, 2, 4] (.cons rfl (.cons rfl (.cons rfl .nil))) ?_
  repeat refine J.seq ?_
  refine J.cond rfl (fun ht4 => ?_) (fun ht4 => ?_)
  ·
    try simp only [decide_eq_true_eq, decide_eq_false_iff_not] at ht4
    repeat refine J.seq ?_
    refine J.plain ?_
    refine JO.t (ob_build (cs := [_, _, _]) sh_api_Value .nil rfl rfl) rfl ?_
    refine JO.m (obm_store rfl rfl (by repeat (first | exact .here | apply Upd.there)) (by first | exact cnt_is rfl rfl | exact cnt_ex) (by first | exact cnt_is rfl rfl | exact cnt_ex | exact cnt_aggO) ss_api_Value) (by rfl) ?_
    refine JO.t (ob_assign rfl) rfl ?_
    refine JO.nil ?_
    repeat (first | refine JX.next ?_ | refine JX.normal_block ?_)
    refine J.sel [2, 3] (.cons rfl (.cons rfl .nil)) ?_
    repeat refine J.seq ?_
    refine J.ret ?_
    repeat (first | refine JX.ret_pass ?_ | refine JX.ret_block ?_)
    exact JX.retLC1 (Zp := fun _ : Unit => True) (L0 := [_]) (L1 := fun _ => [_]) (R := fun _ => .is (.tuple #[.agg #[.int .i64 (adT n S).1.k, .int .i64 (adT n S).1.n, .string (adT n S).1.s], .int .i64 (adT n S).2])) (Lr := [_]) rfl () trivial (List.perm_append_comm (l₁ := [_]) (l₂ := [_])) rfl hb0 rfl sz_api_Value HasOwn.mem rfl rfl (by show Ty.is (.tuple #[.agg #[.int .i64 (adT n S).1.k, .int .i64 (adT n S).1.n, .string (adT n S).1.s], .int .i64 (adT n S).2]) = _; unfold adT; rw [if_pos (by simpa using ht4)])
  ·
    try simp only [decide_eq_true_eq, decide_eq_false_iff_not] at ht4
    repeat refine J.seq ?_
    refine J.reg0 hmx (by kernel_rfl) (by kernel_rfl) ?_
    refine RT.t (ob_move rfl) ?_
    refine RT.t (ob_nilCheck rfl) ?_
    refine RT.t (ob_fieldAddr fo_group_adder_1 rfl) ?_
    refine RT.t (ob_ld1 sz_uint64 rfl rfl) ?_
    refine RT.t (ob_move rfl) ?_
    refine RT.t (ob_nilCheck rfl) ?_
    refine RT.t (ob_fieldAddr fo_group_adder_2 rfl) ?_
    refine RT.t (ob_ld1 sz_uint64 rfl rfl) ?_
    refine RT.t (ob_convIIe (cc := IntKind.i64.wrap (loS S)) ⟨_, un_uint64⟩ un_int64 rfl rfl) ?_
    refine RT.t (ob_shrv (v := (IntKind.i64.wrap (loS S)).fdiv 9223372036854775808) rfl rfl (by omega) rfl) ?_
    refine RT.t (ob_convIIe (cc := ((IntKind.i64.wrap (loS S)).fdiv 9223372036854775808) % 18446744073709551616) ⟨_, un_int64⟩ un_uint64 rfl (wrap_u64 _)) ?_
    refine RT.t (ob_neq rfl rfl) ?_
    refine RT.t (ob_assign rfl) ?_
    refine RT.nil ?_
    refine FinS.nil0 ?_
    repeat (first | refine JX.next ?_ | refine JX.normal_block ?_)
    refine J.sel [0, 2, 12] (.cons rfl (.cons rfl (.cons rfl .nil))) ?_
    repeat refine J.seq ?_
    refine J.cond rfl (fun ht12 => ?_) (fun ht12 => ?_)
    ·
      try simp only [decide_eq_true_eq, decide_eq_false_iff_not] at ht12
      repeat refine J.seq ?_
      refine J.plain ?_
      refine JO.t (ob_build (cs := [_, _, _]) sh_api_Value .nil rfl rfl) rfl ?_
      refine JO.m (obm_store rfl rfl (by repeat (first | exact .here | apply Upd.there)) (by first | exact cnt_is rfl rfl | exact cnt_ex) (by first | exact cnt_is rfl rfl | exact cnt_ex | exact cnt_aggO) ss_api_Value) (by rfl) ?_
      refine JO.t (ob_assign rfl) rfl ?_
      refine JO.nil ?_
      repeat (first | refine JX.next ?_ | refine JX.normal_block ?_)
      refine J.sel [2, 3] (.cons rfl (.cons rfl .nil)) ?_
      repeat refine J.seq ?_
      refine J.ret ?_
      repeat (first | refine JX.ret_pass ?_ | refine JX.ret_block ?_)
      exact JX.retLC1 (Zp := fun _ : Unit => True) (L0 := [_]) (L1 := fun _ => [_]) (R := fun _ => .is (.tuple #[.agg #[.int .i64 (adT n S).1.k, .int .i64 (adT n S).1.n, .string (adT n S).1.s], .int .i64 (adT n S).2])) (Lr := [_]) rfl () trivial (List.perm_append_comm (l₁ := [_]) (l₂ := [_])) rfl hb0 rfl sz_api_Value HasOwn.mem rfl rfl (by show Ty.is (.tuple #[.agg #[.int .i64 (adT n S).1.k, .int .i64 (adT n S).1.n, .string (adT n S).1.s], .int .i64 (adT n S).2]) = _; unfold adT; rw [if_neg (by simpa using ht4), if_neg (fun h => by have := (tell_sum hS).1.2 h; rw [this] at ht12; simp at ht12)])
    ·
      try simp only [decide_eq_true_eq, decide_eq_false_iff_not] at ht12
      refine J.skip ?_
      repeat (first | refine JX.next ?_ | refine JX.normal_block ?_)
      repeat refine J.seq ?_
      refine J.plain ?_
      refine JO.t (ob_move rfl) rfl ?_
      refine JO.t (ob_nilCheck rfl) rfl ?_
      refine JO.t (ob_fieldAddr fo_group_adder_2 rfl) rfl ?_
      refine JO.t (ob_ld1 sz_uint64 rfl rfl) rfl ?_
      refine JO.t (ob_convIIe (cc := IntKind.i64.wrap (loS S)) ⟨_, un_uint64⟩ un_int64 rfl rfl) rfl ?_
      refine JO.t (ob_build (cs := [_, _, _]) sh_api_Value (.cons rfl (.cons rfl .nil)) rfl rfl) rfl ?_
      refine JO.m (obm_store rfl rfl (by repeat (first | exact .here | apply Upd.there)) (by first | exact cnt_is rfl rfl | exact cnt_ex) (by first | exact cnt_is rfl rfl | exact cnt_ex | exact cnt_aggO) ss_api_Value) (by rfl) ?_
      refine JO.t (ob_assign rfl) rfl ?_
      refine JO.nil ?_
      repeat (first | refine JX.next ?_ | refine JX.normal_block ?_)
      refine J.sel [2, 3] (.cons rfl (.cons rfl .nil)) ?_
      repeat refine J.seq ?_
      refine J.ret ?_
      repeat (first | refine JX.ret_pass ?_ | refine JX.ret_block ?_)
      exact JX.retLC1 (Zp := fun _ : Unit => True) (L0 := [_]) (L1 := fun _ => [_]) (R := fun _ => .is (.tuple #[.agg #[.int .i64 (adT n S).1.k, .int .i64 (adT n S).1.n, .string (adT n S).1.s], .int .i64 (adT n S).2])) (Lr := [_]) rfl () trivial (List.perm_append_comm (l₁ := [_]) (l₂ := [_])) rfl hb0 rfl sz_api_Value HasOwn.mem rfl rfl (by show Ty.is (.tuple #[.agg #[.int .i64 (adT n S).1.k, .int .i64 (adT n S).1.n, .string (adT n S).1.s], .int .i64 (adT n S).2]) = _; unfold adT; have hI : I64 S := (tell_sum hS).1.1 (by simpa using ht12); rw [if_neg (by simpa using ht4), if_pos (show -9223372036854775808 ≤ S ∧ S < 9223372036854775808 from hI), (tell_sum hS).2 hI])
def ttK (k : Int) : Nat := if k = 20 then ty_group_counter else if k = 21 then ty_group_adder else ty_group_picker
def tpK (k : Int) : Nat := if k = 20 then ty_p_group_counter else if k = 21 then ty_p_group_adder else ty_p_group_picker
def fAdd (k : Int) : Nat := if k = 20 then f_p_group_counter_add else if k = 21 then f_p_group_adder_add else f_p_group_picker_add
def fTell (k : Int) : Nat := if k = 20 then f_p_group_counter_tell else if k = 21 then f_p_group_adder_tell else f_p_group_picker_tell
theorem c_group_made (k : Int) (hk : 20 ≤ k ∧ k ≤ 23) : CallL Try.prog f_group_made ([]) [] [.is (.int .i64 k)] (fun _ : Nat => True) (fun z => [⟨z, ttK k, .is (.agg (tc k []).toArray)⟩]) (fun z => .is (.iface (tpK k) (.pointer (some ⟨z, 0, none⟩)))) :=
CallL.of (fn := Try.f37) Try.func37 (n := 20) rfl rfl rfl (fun _ _ => by kernel_rfl) fun E W hb0 => by
  repeat refine J.seq ?_
  refine J.plain ?_
  refine JO.t (ob_assign rfl) rfl ?_
  refine JO.nil ?_
  repeat (first | refine JX.next ?_ | refine JX.normal_block ?_)
  refine J.sel [0] (.cons rfl .nil) ?_
  repeat refine J.seq ?_
  refine J.plain ?_
  refine JO.t (ob_move rfl) rfl ?_
  refine JO.nil ?_
  repeat (first | refine JX.next ?_ | refine JX.normal_block ?_)
  refine J.sel [3] (.cons rfl .nil) ?_
  repeat refine J.seq ?_
  refine J.block ?_
  repeat refine J.seq ?_
  refine J.plain ?_
  refine JO.t (ob_eql rfl rfl) rfl ?_
  refine JO.t (ob_assign rfl) rfl ?_
  refine JO.nil ?_
  repeat (first | refine JX.next ?_ | refine JX.normal_block ?_)
  refine J.sel [3, 4] (.cons rfl (.cons rfl .nil)) ?_
  repeat refine J.seq ?_
  refine J.cond rfl (fun ht4 => ?_) (fun ht4 => ?_)
  ·
    try simp only [decide_eq_true_eq, decide_eq_false_iff_not] at ht4
    repeat refine J.seq ?_
    refine J.plain ?_
    refine JO.alloc zo_group_counter rfl fun b6 => ?_
    refine JO.t (ob_iface (d := .pointer ty_group_counter) (by kernel_rfl) rfl rfl) rfl ?_
    refine JO.t (ob_assign rfl) rfl ?_
    refine JO.nil ?_
    repeat (first | refine JX.next ?_ | refine JX.normal_block ?_)
    refine J.sel [2] (.cons rfl .nil) ?_
    repeat refine J.seq ?_
    refine J.ret ?_
    repeat (first | refine JX.ret_pass ?_ | refine JX.ret_block ?_)
    have hk2 : k = 20 := by simpa using ht4
    subst hk2
    exact JX.retL1 (Zp := fun _ : Nat => True) (L1 := fun z => [⟨z, ttK 20, .is (.agg (tc 20 []).toArray)⟩]) (R := fun z => .is (.iface (tpK 20) (.pointer (some ⟨z, 0, none⟩)))) (Lr := []) rfl b6 trivial (List.Perm.of_eq (by simp [tc, ttK, hiS, loS, sm, sgK, pkA])) rfl rfl hb0 rfl (Sub.isEq (by simp [tpK]))
  ·
    try simp only [decide_eq_true_eq, decide_eq_false_iff_not] at ht4
    repeat refine J.seq ?_
    refine J.plain ?_
    refine JO.t (ob_eql rfl rfl) rfl ?_
    refine JO.t (ob_assign rfl) rfl ?_
    refine JO.nil ?_
    repeat (first | refine JX.next ?_ | refine JX.normal_block ?_)
    refine J.sel [3, 8] (.cons rfl (.cons rfl .nil)) ?_
    repeat refine J.seq ?_
    refine J.cond rfl (fun ht8 => ?_) (fun ht8 => ?_)
    ·
      try simp only [decide_eq_true_eq, decide_eq_false_iff_not] at ht8
      repeat refine J.seq ?_
      refine J.plain ?_
      refine JO.alloc zo_group_adder rfl fun b10 => ?_
      refine JO.t (ob_iface (d := .pointer ty_group_adder) (by kernel_rfl) rfl rfl) rfl ?_
      refine JO.t (ob_assign rfl) rfl ?_
      refine JO.nil ?_
      repeat (first | refine JX.next ?_ | refine JX.normal_block ?_)
      refine J.sel [2] (.cons rfl .nil) ?_
      repeat refine J.seq ?_
      refine J.ret ?_
      repeat (first | refine JX.ret_pass ?_ | refine JX.ret_block ?_)
      have hk2 : k = 21 := by simpa using ht8
      subst hk2
      exact JX.retL1 (Zp := fun _ : Nat => True) (L1 := fun z => [⟨z, ttK 21, .is (.agg (tc 21 []).toArray)⟩]) (R := fun z => .is (.iface (tpK 21) (.pointer (some ⟨z, 0, none⟩)))) (Lr := []) rfl b10 trivial (List.Perm.of_eq (by simp [tc, ttK, hiS, loS, sm, sgK, pkA])) rfl rfl hb0 rfl (Sub.isEq (by simp [tpK]))
    ·
      try simp only [decide_eq_true_eq, decide_eq_false_iff_not] at ht8
      repeat refine J.seq ?_
      refine J.plain ?_
      refine JO.t (ob_eql rfl rfl) rfl ?_
      refine JO.t (ob_assign rfl) rfl ?_
      refine JO.nil ?_
      repeat (first | refine JX.next ?_ | refine JX.normal_block ?_)
      refine J.sel [12] (.cons rfl .nil) ?_
      repeat refine J.seq ?_
      refine J.cond rfl (fun ht12 => ?_) (fun ht12 => ?_)
      ·
        try simp only [decide_eq_true_eq, decide_eq_false_iff_not] at ht12
        repeat refine J.seq ?_
        refine J.plain ?_
        refine JO.t (ob_build (cs := [_, _, _, _]) sh_group_picker (.cons rfl .nil) rfl rfl) rfl ?_
        refine JO.box rfl rfl fun b15 => ?_
        refine JO.t (ob_iface (d := .pointer ty_group_picker) (by kernel_rfl) rfl rfl) rfl ?_
        refine JO.t (ob_assign rfl) rfl ?_
        refine JO.nil ?_
        repeat (first | refine JX.next ?_ | refine JX.normal_block ?_)
        refine J.sel [2] (.cons rfl .nil) ?_
        repeat refine J.seq ?_
        refine J.ret ?_
        repeat (first | refine JX.ret_pass ?_ | refine JX.ret_block ?_)
        have hk2 : k = 22 := by simpa using ht12
        subst hk2
        exact JX.retL1 (Zp := fun _ : Nat => True) (L1 := fun z => [⟨z, ttK 22, .is (.agg (tc 22 []).toArray)⟩]) (R := fun z => .is (.iface (tpK 22) (.pointer (some ⟨z, 0, none⟩)))) (Lr := []) rfl b15 trivial (List.Perm.of_eq (by simp [tc, ttK, hiS, loS, sm, sgK, pkA])) rfl rfl hb0 rfl (Sub.isEq (by simp [tpK]))
      ·
        try simp only [decide_eq_true_eq, decide_eq_false_iff_not] at ht12
        refine J.skip ?_
        repeat (first | refine JX.next ?_ | refine JX.normal_block ?_)
        repeat refine J.seq ?_
        refine J.plain ?_
        refine JO.t (ob_build (cs := [_, _, _, _]) sh_group_picker (.cons rfl .nil) rfl rfl) rfl ?_
        refine JO.box rfl rfl fun b18 => ?_
        refine JO.t (ob_iface (d := .pointer ty_group_picker) (by kernel_rfl) rfl rfl) rfl ?_
        refine JO.t (ob_assign rfl) rfl ?_
        refine JO.nil ?_
        repeat (first | refine JX.next ?_ | refine JX.normal_block ?_)
        refine J.sel [2] (.cons rfl .nil) ?_
        repeat refine J.seq ?_
        refine J.ret ?_
        repeat (first | refine JX.ret_pass ?_ | refine JX.ret_block ?_)
        have hk2 : k = 23 := by simp at ht4 ht8 ht12; omega
        subst hk2
        exact JX.retL1 (Zp := fun _ : Nat => True) (L1 := fun z => [⟨z, ttK 23, .is (.agg (tc 23 []).toArray)⟩]) (R := fun z => .is (.iface (tpK 23) (.pointer (some ⟨z, 0, none⟩)))) (Lr := []) rfl b18 trivial (List.Perm.of_eq (by simp [tc, ttK, hiS, loS, sm, sgK, pkA])) rfl rfl hb0 rfl (Sub.isEq (by simp [tpK]))
theorem k4 {k : Int} (hk : 20 ≤ k ∧ k ≤ 23) : k = 20 ∨ k = 21 ∨ k = 22 ∨ k = 23 := by omega
theorem mAdd {k : Int} (hk : 20 ≤ k ∧ k ≤ 23) : methOf Try.prog (tpK k) "cadastre/group.add" = some (fAdd k) := by
  rcases k4 hk with rfl | rfl | rfl | rfl <;> kernel_rfl
theorem mTell {k : Int} (hk : 20 ≤ k ∧ k ≤ 23) : methOf Try.prog (tpK k) "cadastre/group.tell" = some (fTell k) := by
  rcases k4 hk with rfl | rfl | rfl | rfl <;> kernel_rfl
theorem c_teller_add (k : Int) (hk : 20 ≤ k ∧ k ≤ 23) (b : Nat) (vs : List V3) (v : V3) (hl : vs.length ≤ 1048576) (hv : I64 v.n) : CallL Try.prog (fAdd k) [⟨b, ttK k, .is (.agg (tc k vs).toArray)⟩] [] [.is (.pointer (some ⟨b, 0, none⟩)), .is (.agg #[.int .i64 v.k, .int .i64 v.n, .string v.s])] (fun _ : Unit => True) (fun _ => [⟨b, ttK k, .is (.agg (tc k (vs ++ [v])).toArray)⟩]) (fun _ => .is (.tuple #[])) := by
  have hs : sm (vs ++ [v]) = sm vs + v.n := by rw [sm_app]; simp [sm]
  have hlen : ((vs ++ [v]).length : Int) = (vs.length : Int) + 1 := by simp
  rcases k4 hk with rfl | rfl | rfl | rfl
  · have h := c_p_group_counter_add b ty_group_counter vs.length [] v (by omega) (by omega)
    simpa [fAdd, ttK, tc, hlen] using h
  · have h := c_p_group_adder_add b vs.length (sm vs) v (by omega) (by omega) hv
    simpa [fAdd, ttK, tc, hlen, hs] using h
  · have h := c_p_group_picker_add b (-1) (pkA (-1) vs) v (.inr rfl)
    simpa [fAdd, ttK, tc, sgK, pkA_snoc] using h
  · have h := c_p_group_picker_add b 1 (pkA 1 vs) v (.inl rfl)
    simpa [fAdd, ttK, tc, sgK, pkA_snoc] using h
theorem c_teller_tell (k : Int) (hk : 20 ≤ k ∧ k ≤ 23) (b : Nat) (vs : List V3) (hl : vs.length ≤ 1048576) (hv : ∀ v ∈ vs, I64 v.n) : CallL Try.prog (fTell k) [⟨b, ttK k, .is (.agg (tc k vs).toArray)⟩] [] [.is (.pointer (some ⟨b, 0, none⟩))] (fun _ : Unit => True) (fun _ => [⟨b, ttK k, .is (.agg (tc k vs).toArray)⟩]) (fun _ => .is (.tuple #[.agg #[.int .i64 (tellV k vs).1.k, .int .i64 (tellV k vs).1.n, .string (tellV k vs).1.s], .int .i64 (tellV k vs).2])) := by
  have hb := sm_bound vs hv
  rcases k4 hk with rfl | rfl | rfl | rfl
  · have h := c_p_group_counter_tell b vs.length
    simpa [fTell, ttK, tc, tellV] using h
  · have h := c_p_group_adder_tell b vs.length (sm vs) (by omega)
    have e : tellV 21 vs = adT vs.length (sm vs) := by
      unfold tellV adT
      rw [if_neg (by decide), if_pos rfl]
      by_cases h0 : vs.length = 0
      · rw [if_pos h0, if_pos (by omega)]
      · rw [if_neg h0, if_neg (show ¬ ((vs.length : Int) = 0) by omega)]
    rw [e]
    simpa [fTell, ttK, tc] using h
  · have h := c_p_group_picker_tell b (-1) (pkA (-1) vs)
    simpa [fTell, ttK, tc, tellV, sgK] using h
  · have h := c_p_group_picker_tell b 1 (pkA 1 vs)
    simpa [fTell, ttK, tc, tellV, sgK] using h
end Go.Proofs.Ytgpikmonklainaa
