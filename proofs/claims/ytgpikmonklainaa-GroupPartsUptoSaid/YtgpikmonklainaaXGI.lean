/- group: the tellers. No condition. -/
import Derived.Test.YtgpikmonklainaaXGC
import Derived.Test.YtgpikmonklainaaXGT
set_option maxRecDepth 20000
namespace Go.Proofs.Ytgpikmonklainaa
open Go Go.Vc
open Go.Vl Go.Od
theorem add64_run (x y : Int) (hx : 0 ≤ x) (hy : 0 ≤ y) (w : World) : (callFunc 89 #[.int .u64 x, .int .u64 y, .int .u64 0]).run Try.prog w = .ok (.value (.tuple #[.int .u64 ((x + y + 0) % 18446744073709551616), .int .u64 ((x + y + 0) / 18446744073709551616)])) w := by
  rw [run_callFunc_extern (f := 89) (fn := Try.f89) Try.func89 (by kernel_rfl) (by kernel_rfl) (by kernel_rfl) (e := add64Entry) (by kernel_rfl), run_add64 x y 0 hx hy (by omega) (by omega)]
  rfl
theorem c_p_group_counter_add (b e : Nat) (n : Int) (rest : List Value) (v : V3) (h1 : -9223372036854775808 ≤ n) (h2 : n + 1 < 9223372036854775808) : CallL Try.prog f_p_group_counter_add ([⟨b, e, .is (.agg (.int .i64 n :: rest).toArray)⟩]) [] [.is (.pointer (some ⟨b, 0, none⟩)), .is (.agg #[.int .i64 v.k, .int .i64 v.n, .string v.s])] (fun _ : Unit => True) (fun _ => [⟨b, e, .is (.agg (.int .i64 (n + 1) :: rest).toArray)⟩]) (fun _ => .is (.tuple #[])) :=
CallL.of (fn := Try.f85) Try.func85 (n := 11) rfl rfl rfl (fun _ _ => by kernel_rfl) fun E W hb0 => by
  repeat refine J.seq ?_
  refine J.plain ?_
  refine JO.box rfl rfl fun b3 => ?_
  refine JO.nil ?_
  repeat (first | refine JX.next ?_ | refine JX.normal_block ?_)
  refine J.sel [0] (.cons rfl .nil) ?_
  repeat refine J.seq ?_
  refine J.plain ?_
  refine JO.t (ob_move rfl) rfl ?_
  refine JO.t (ob_nilCheck rfl) rfl ?_
  refine JO.t (ob_fieldAddr fo_group_counter_0 rfl) rfl ?_
  refine JO.t (ob_ld1 sz_int64 rfl rfl) rfl ?_
  refine JO.t (ob_addc (cc := n + 1) rfl rfl (by omega) (by omega) (by omega)) rfl ?_
  refine JO.t (ob_nilCheck rfl) rfl ?_
  refine JO.t (ob_fieldAddr fo_group_counter_0 rfl) rfl ?_
  refine JO.m (obm_storeF (cs' := .int .i64 (n + 1) :: rest) rfl rfl (by repeat (first | exact .here | apply Upd.there)) rfl rfl rfl rfl ss_int64) (by rfl) ?_
  refine JO.nil ?_
  refine JX.normal_ret ?_
  exact JX.retL0 (Zp := fun _ : Unit => True) (R := fun _ => .is (.tuple #[])) (Lr := [_]) rfl () trivial (List.perm_append_comm (l₁ := [_]) (l₂ := [_])) rfl hb0 rfl
set_option maxHeartbeats 1000000 in
theorem c_p_group_adder_add (b : Nat) (n S : Int) (v : V3) (h1 : -9223372036854775808 ≤ n) (h2 : n + 1 < 9223372036854775808) (hv : I64 v.n) : CallL Try.prog f_p_group_adder_add ([⟨b, ty_group_adder, .is (.agg ([.int .i64 n, .int .u64 (hiS S), .int .u64 (loS S)]).toArray)⟩]) [] [.is (.pointer (some ⟨b, 0, none⟩)), .is (.agg #[.int .i64 v.k, .int .i64 v.n, .string v.s])] (fun _ : Unit => True) (fun _ => [⟨b, ty_group_adder, .is (.agg ([.int .i64 (n + 1), .int .u64 (hiS (S + v.n)), .int .u64 (loS (S + v.n))]).toArray)⟩]) (fun _ => .is (.tuple #[])) :=
CallL.of (fn := Try.f87) Try.func87 (n := 40) rfl rfl rfl (fun _ _ => by kernel_rfl) fun E W hb0 => by
  repeat refine J.seq ?_
  refine J.plain ?_
  refine JO.box rfl rfl fun b3 => ?_
  refine JO.nil ?_
  repeat (first | refine JX.next ?_ | refine JX.normal_block ?_)
  refine J.sel [0, 3] (.cons rfl (.cons rfl .nil)) ?_
  repeat refine J.seq ?_
  refine J.regS 4 hmx (by kernel_rfl) (by kernel_rfl) ?_
  refine RT.t (ob_move rfl) ?_
  refine RT.t (ob_nilCheck rfl) ?_
  refine RT.t (ob_fieldAddr fo_group_adder_0 rfl) ?_
  refine RT.t (ob_ldN (cs := [_, _, _]) sz_api_Value rfl rfl rfl) ?_
  refine RT.nil ?_
  refine FinS.tail0 ?_
  refine JO.callL (Lr := [⟨b3, ty_api_Value, .is (.agg #[.int .i64 v.k, .int .i64 v.n, .string v.s])⟩]) (c_p_group_counter_add b ty_group_adder n [.int .u64 (hiS S), .int .u64 (loS S)] v h1 h2) (fun d e => by injection e with e; show d < 40; omega) (List.perm_append_comm (l₁ := [_]) (l₂ := [_])) (fun _ h => absurd h List.not_mem_nil) (.one rfl (.one rfl .nil)) ?_
  intro _ _
  refine JO.eqL (L' := [⟨b, ty_group_adder, .is (.agg ([.int .i64 (n + 1), .int .u64 (hiS S), .int .u64 (loS S)] : List Value).toArray)⟩, ⟨b3, ty_api_Value, .is (.agg #[.int .i64 v.k, .int .i64 v.n, .string v.s])⟩]) rfl ?_
  refine JO.nil ?_
  repeat (first | refine JX.next ?_ | refine JX.normal_block ?_)
  refine J.sel [0, 3] (.cons rfl (.cons rfl .nil)) ?_
  repeat refine J.seq ?_
  refine J.reg0 hmx (by kernel_rfl) (by kernel_rfl) ?_
  refine RT.t (ob_move rfl) ?_
  refine RT.t (ob_nilCheck rfl) ?_
  refine RT.t (ob_fieldAddr fo_group_adder_2 rfl) ?_
  refine RT.t (ob_ld1 sz_uint64 rfl rfl) ?_
  refine RT.t (ob_fieldAddr fo_api_Value_1 rfl) ?_
  refine RT.t (ob_ld1 sz_int64 rfl rfl) ?_
  refine RT.t (ob_convIIe (cc := v.n % 18446744073709551616) ⟨_, un_int64⟩ un_uint64 rfl (wrap_u64 _)) ?_
  refine RT.t (ob_call3V rfl (add64_run (loS S) (v.n % 18446744073709551616) (by unfold loS; omega) (by omega)) rfl rfl rfl) ?_
  refine RT.t (ob_move rfl) ?_
  refine RT.t (ob_ext0 rfl) ?_
  refine RT.t (ob_ext1 rfl) ?_
  refine RT.t (ob_assign rfl) ?_
  refine RT.t (ob_assign rfl) ?_
  refine RT.nil ?_
  refine FinS.nil0 ?_
  repeat (first | refine JX.next ?_ | refine JX.normal_block ?_)
  refine J.sel [0, 3, 4, 5] (.cons rfl (.cons rfl (.cons rfl (.cons rfl .nil)))) ?_
  repeat refine J.seq ?_
  refine J.regSm 16 17 ([⟨b, ty_group_adder, .is (.agg ([.int .i64 (n + 1), .int .u64 (hiS S), .int .u64 (loS (S + v.n))] : List Value).toArray)⟩, ⟨b3, ty_api_Value, .is (.agg #[.int .i64 v.k, .int .i64 v.n, .string v.s])⟩]) ([⟨b, ty_group_adder, .rep (fun v _ => ∃ lo : Int, v = .agg #[.int .i64 (n + 1), .int .u64 (hiS S), .int .u64 lo])⟩, ⟨b3, ty_api_Value, .is (.agg #[.int .i64 v.k, .int .i64 v.n, .string v.s])⟩]) rfl rfl rfl rfl hmx (by kernel_rfl) rfl rfl (by kernel_rfl) (own_weaks fun _ => ⟨_, rfl⟩) (own_weaks fun _ => ⟨_, rfl⟩) ?_
  refine RT.t (ob_move rfl) ?_
  refine RT.t (ob_move rfl) ?_
  refine RT.t (ob_move rfl) ?_
  refine RT.t (ob_move rfl) ?_
  refine RT.t (ob_nilCheck rfl) ?_
  refine RT.t (ob_fieldAddr fo_group_adder_1 rfl) ?_
  refine RT.t (ob_ldWeak sz_uint64 rfl List.mem_cons_self (fun v w ⟨lo, h⟩ => by rw [h]; rfl)) ?_
  refine RT.t (ob_fieldAddr fo_api_Value_1 rfl) ?_
  refine RT.t (ob_ld1 sz_int64 rfl rfl) ?_
  refine RT.t (ob_shrv (v := if v.n < 0 then -1 else 0) rfl rfl (by omega) (sh63 hv)) ?_
  refine RT.t (ob_convIIe (cc := (if v.n < 0 then -1 else 0) % 18446744073709551616) ⟨_, un_int64⟩ un_uint64 rfl (wrap_u64 _)) ?_
  refine RT.t (ob_addv (v := (hiS S + (if v.n < 0 then -1 else 0) % 18446744073709551616) % 18446744073709551616) rfl rfl (wrap_u64 _)) ?_
  refine RT.t (ob_move rfl) ?_
  refine RT.t (ob_addv (v := hiS (S + v.n)) rfl rfl (by rw [wrap_u64]; exact hi_step S hv)) ?_
  refine RT.t (ob_nilCheck rfl) ?_
  refine RT.t (ob_fieldAddr fo_group_adder_2 rfl) ?_
  refine RT.store (BigOb.store rfl (obm_storeF1 (cs := [.int .i64 (n + 1), .int .u64 (hiS S), .int .u64 (loS S)]) (cs' := [.int .i64 (n + 1), .int .u64 (hiS S), .int .u64 (loS (S + v.n))]) rfl rfl rfl rfl (by repeat (first | exact .here | apply Upd.there)) (by rw [lo_step]; rfl) rfl ss_uint64)) ?_
  refine RT.nil ?_
  refine JO.t (ob_nilCheck rfl) rfl ?_
  refine JO.t (ob_fieldAddr fo_group_adder_1 rfl) rfl ?_
  refine JO.m (obm_storeF1 (cs := [.int .i64 (n + 1), .int .u64 (hiS S), .int .u64 (loS (S + v.n))]) (cs' := [.int .i64 (n + 1), .int .u64 (hiS (S + v.n)), .int .u64 (loS (S + v.n))]) rfl rfl rfl rfl (by repeat (first | exact .here | apply Upd.there)) rfl rfl ss_uint64) (by rfl) ?_
  refine JO.nil ?_
  refine JX.normal_ret ?_
  exact JX.retL0 (Zp := fun _ : Unit => True) (R := fun _ => .is (.tuple #[])) (Lr := [_]) rfl () trivial (List.Perm.refl _) rfl hb0 rfl
theorem c_p_group_picker_add (b : Nat) (sg : Int) (p v : V3) (hs : sg = 1 ∨ sg = -1) : CallL Try.prog f_p_group_picker_add ([⟨b, ty_group_picker, .is (.agg ([.int .i64 sg, .int .i64 p.k, .int .i64 p.n, .string p.s]).toArray)⟩]) [] [.is (.pointer (some ⟨b, 0, none⟩)), .is (.agg #[.int .i64 v.k, .int .i64 v.n, .string v.s])] (fun _ : Unit => True) (fun _ => [⟨b, ty_group_picker, .is (.agg ([.int .i64 sg, .int .i64 (pk1 sg p v).k, .int .i64 (pk1 sg p v).n, .string (pk1 sg p v).s]).toArray)⟩]) (fun _ => .is (.tuple #[])) :=
CallL.of (fn := Try.f90) Try.func90 (n := 28) rfl rfl rfl (fun _ _ => by kernel_rfl) fun E W hb0 => by
  repeat refine J.seq ?_
  refine J.plain ?_
  refine JO.box rfl rfl fun b3 => ?_
  refine JO.nil ?_
  repeat (first | refine JX.next ?_ | refine JX.normal_block ?_)
  refine J.sel [0, 3] (.cons rfl (.cons rfl .nil)) ?_
  repeat refine J.seq ?_
  refine J.reg0 hmx (by kernel_rfl) (by kernel_rfl) ?_
  refine RT.t (ob_move rfl) ?_
  refine RT.t (ob_nilCheck rfl) ?_
  refine RT.t (ob_fieldAddr fo_group_picker_1 rfl) ?_
  refine RT.t (ob_fieldAddr fo_api_Value_0 rfl) ?_
  refine RT.t (ob_ld1 sz_int rfl rfl) ?_
  refine RT.t (ob_eql rfl rfl) ?_
  refine RT.t (ob_move rfl) ?_
  refine RT.g rfl rfl rfl (fun hg => ob_move (.inl rfl)) ?_
  refine RT.g rfl rfl rfl (fun hg => ob_nilCheck (.inr ⟨_, rfl, fun h => h⟩)) ?_
  refine RT.g rfl rfl rfl (fun hg => ob_fieldAddr fo_group_picker_0 (.inr ⟨_, rfl, fun h => h⟩)) ?_
  refine RT.g rfl rfl rfl (fun hg => ob_ld1 sz_int (.inr ⟨_, rfl, fun h => h⟩) rfl) ?_
  refine RT.g rfl rfl rfl (fun hg => ob_ldN (cs := [_, _, _]) sz_api_Value (.inl rfl) rfl rfl) ?_
  refine RT.g rfl rfl rfl (fun hg => ob_move (.inl rfl)) ?_
  refine RT.g rfl rfl rfl (fun hg => ob_nilCheck (.inr ⟨_, rfl, fun h => h⟩)) ?_
  refine RT.g rfl rfl rfl (fun hg => ob_fieldAddr fo_group_picker_1 (.inr ⟨_, rfl, fun h => h⟩)) ?_
  refine RT.g rfl rfl rfl (fun hg => ob_ldN (cs := [_, _, _]) sz_api_Value (.inr ⟨_, rfl, fun h => h⟩) rfl rfl) ?_
  refine RT.g rfl rfl rfl (fun hg => ob_call (.inl rfl) (c_value_Compare v p) (.one (.inr ⟨_, rfl, fun h => h⟩) (.one (.inr ⟨_, rfl, fun h => h⟩) .nil))) ?_
  refine RT.g rfl rfl rfl (fun hg => ob_mulv (v := sg * cmpV v p) (.inr ⟨_, rfl, fun h => h⟩) (.inr ⟨_, rfl, fun h => h⟩) (wrap64_eq (by have := cmp_rng v p; rcases hs with h | h <;> subst h <;> omega) (by have := cmp_rng v p; rcases hs with h | h <;> subst h <;> omega))) ?_
  refine RT.g rfl rfl rfl (fun hg => ob_gtr (.inr ⟨_, rfl, fun h => h⟩) (.inl rfl)) ?_
  refine RT.t (ob_pickOr rfl rfl rfl id) ?_
  refine RT.nil ?_
  refine FinS.nil0 ?_
  repeat (first | refine JX.next ?_ | refine JX.normal_block ?_)
  refine J.sel [0, 3, 23] (.cons rfl (.cons rfl (.cons rfl .nil))) ?_
  repeat refine J.seq ?_
  refine J.cond rfl (fun ht23 => ?_) (fun ht23 => ?_)
  ·
    try simp only [decide_eq_true_eq, decide_eq_false_iff_not] at ht23
    have hp : pk1 sg p v = v := by unfold pk1; rw [if_pos (by simpa using ht23)]
    repeat refine J.seq ?_
    refine J.plain ?_
    refine JO.t (ob_move rfl) rfl ?_
    refine JO.t (ob_ldN (cs := [_, _, _]) sz_api_Value rfl rfl rfl) rfl ?_
    refine JO.t (ob_nilCheck rfl) rfl ?_
    refine JO.t (ob_fieldAddr fo_group_picker_1 rfl) rfl ?_
    refine JO.m (obm_storeF (n := 3) (cs := [.int .i64 sg, .int .i64 p.k, .int .i64 p.n, .string p.s]) (cs' := [.int .i64 sg, .int .i64 v.k, .int .i64 v.n, .string v.s]) rfl rfl (by repeat (first | exact .here | apply Upd.there)) rfl rfl rfl rfl ss_api_Value) (by rfl) ?_
    refine JO.nil ?_
    refine JX.normal_ret ?_
    exact JX.retL0 (Zp := fun _ : Unit => True) (R := fun _ => .is (.tuple #[])) (Lr := [_]) rfl () trivial (by rw [hp]; exact List.perm_append_comm (l₁ := [_]) (l₂ := [_])) rfl hb0 rfl
  ·
    try simp only [decide_eq_true_eq, decide_eq_false_iff_not] at ht23
    refine J.skip ?_
    refine JX.normal_ret ?_
    have hp : pk1 sg p v = p := by unfold pk1; rw [if_neg (by simpa using ht23)]
    exact JX.retL0 (Zp := fun _ : Unit => True) (R := fun _ => .is (.tuple #[])) (Lr := [_]) rfl () trivial (by rw [hp]; exact List.perm_append_comm (l₁ := [_]) (l₂ := [_])) rfl hb0 rfl
theorem c_p_group_counter_tell (b : Nat) (n : Int) : CallL Try.prog f_p_group_counter_tell ([⟨b, ty_group_counter, .is (.agg ([.int .i64 n]).toArray)⟩]) [] [.is (.pointer (some ⟨b, 0, none⟩))] (fun _ : Unit => True) (fun _ => [⟨b, ty_group_counter, .is (.agg ([.int .i64 n]).toArray)⟩]) (fun _ => .is (.tuple #[.agg #[.int .i64 (⟨1, n, e0⟩ : V3).k, .int .i64 (⟨1, n, e0⟩ : V3).n, .string (⟨1, n, e0⟩ : V3).s], .int .i64 0])) :=
CallL.of (fn := Try.f86) Try.func86 (n := 9) rfl rfl rfl (fun _ _ => by kernel_rfl) fun E W hb0 => by
  repeat refine J.seq ?_
  refine J.plain ?_
  refine JO.alloc zo_api_Value rfl fun b2 => ?_
  refine JO.t (ob_assign rfl) rfl ?_
  refine JO.nil ?_
  repeat (first | refine JX.next ?_ | refine JX.normal_block ?_)
  refine J.sel [0, 2] (.cons rfl (.cons rfl .nil)) ?_
  repeat refine J.seq ?_
  refine J.plain ?_
  refine JO.t (ob_move rfl) rfl ?_
  refine JO.t (ob_nilCheck rfl) rfl ?_
  refine JO.t (ob_fieldAddr fo_group_counter_0 rfl) rfl ?_
  refine JO.t (ob_ld1 sz_int64 rfl rfl) rfl ?_
  refine JO.t (ob_build (cs := [_, _, _]) sh_api_Value (.cons rfl (.cons rfl .nil)) rfl rfl) rfl ?_
  refine JO.m (obm_store rfl rfl (by repeat (first | exact .here | apply Upd.there)) (by first | exact cnt_is rfl rfl | exact cnt_ex) (by first | exact cnt_is rfl rfl | exact cnt_ex | exact cnt_aggO) ss_api_Value) (by rfl) ?_
  refine JO.t (ob_assign rfl) rfl ?_
  refine JO.nil ?_
  repeat (first | refine JX.next ?_ | refine JX.normal_block ?_)
  refine J.sel [2, 3] (.cons rfl (.cons rfl .nil)) ?_
  repeat refine J.seq ?_
  refine J.ret ?_
  repeat (first | refine JX.ret_pass ?_ | refine JX.ret_block ?_)
  exact JX.retLC1 (Zp := fun _ : Unit => True) (L0 := [_]) (L1 := fun _ => [_]) (R := fun _ => .is _) (Lr := [_]) rfl () trivial (List.perm_append_comm (l₁ := [_]) (l₂ := [_])) rfl hb0 rfl sz_api_Value HasOwn.mem rfl rfl rfl
theorem c_p_group_picker_tell (b : Nat) (sg : Int) (p : V3) : CallL Try.prog f_p_group_picker_tell ([⟨b, ty_group_picker, .is (.agg ([.int .i64 sg, .int .i64 p.k, .int .i64 p.n, .string p.s]).toArray)⟩]) [] [.is (.pointer (some ⟨b, 0, none⟩))] (fun _ : Unit => True) (fun _ => [⟨b, ty_group_picker, .is (.agg ([.int .i64 sg, .int .i64 p.k, .int .i64 p.n, .string p.s]).toArray)⟩]) (fun _ => .is (.tuple #[.agg #[.int .i64 p.k, .int .i64 p.n, .string p.s], .int .i64 0])) :=
CallL.of (fn := Try.f91) Try.func91 (n := 8) rfl rfl rfl (fun _ _ => by kernel_rfl) fun E W hb0 => by
  repeat refine J.seq ?_
  refine J.plain ?_
  refine JO.alloc zo_api_Value rfl fun b2 => ?_
  refine JO.t (ob_assign rfl) rfl ?_
  refine JO.nil ?_
  repeat (first | refine JX.next ?_ | refine JX.normal_block ?_)
  refine J.sel [0, 2] (.cons rfl (.cons rfl .nil)) ?_
  repeat refine J.seq ?_
  refine J.plain ?_
  refine JO.t (ob_move rfl) rfl ?_
  refine JO.t (ob_nilCheck rfl) rfl ?_
  refine JO.t (ob_fieldAddr fo_group_picker_1 rfl) rfl ?_
  refine JO.t (ob_ldN (cs := [_, _, _]) sz_api_Value rfl rfl rfl) rfl ?_
  refine JO.m (obm_store rfl rfl (by repeat (first | exact .here | apply Upd.there)) (by first | exact cnt_is rfl rfl | exact cnt_ex) (by first | exact cnt_is rfl rfl | exact cnt_ex | exact cnt_aggO) ss_api_Value) (by rfl) ?_
  refine JO.t (ob_assign rfl) rfl ?_
  refine JO.nil ?_
  repeat (first | refine JX.next ?_ | refine JX.normal_block ?_)
  refine J.sel [2, 3] (.cons rfl (.cons rfl .nil)) ?_
  repeat refine J.seq ?_
  refine J.ret ?_
  repeat (first | refine JX.ret_pass ?_ | refine JX.ret_block ?_)
  exact JX.retLC1 (Zp := fun _ : Unit => True) (L0 := [_]) (L1 := fun _ => [_]) (R := fun _ => .is _) (Lr := [_]) rfl () trivial (List.perm_append_comm (l₁ := [_]) (l₂ := [_])) rfl hb0 rfl sz_api_Value HasOwn.mem rfl rfl rfl
end Go.Proofs.Ytgpikmonklainaa
