/- order: the laws that are awake. No condition. -/
import Derived.Test.YtgpikmonklainaaXRT
import Derived.Test.YtgpikmonklainaaXOI
set_option maxRecDepth 20000
namespace Go.Proofs.Ytgpikmonklainaa
open Go Go.Vc
open Go.Vl Go.Od
theorem c_law15_num (n : Int) : CallTy Try.prog f_law15_num [.is (.int .i64 n)] (.rep (SlC V3.cells 3 [nV n])) :=
  CallTy.of (fn := Try.f21) Try.func21 (n := 6) rfl rfl rfl (fun _ _ => by kernel_rfl) fun E W => by
  repeat refine J.seq ?_
  refine J.plain ?_
  refine JO.t (ob_assign rfl) rfl ?_
  refine JO.nil ?_
  repeat (first | refine JX.next ?_ | refine JX.normal_block ?_)
  refine J.sel [0] (.cons rfl .nil) ?_
  repeat refine J.seq ?_
  refine J.plain ?_
  refine JO.t (ob_move rfl) rfl ?_
  refine JO.t (ob_build (cs := [_, _, _]) sh_api_Value (.cons rfl (.cons rfl .nil)) rfl rfl) rfl ?_
  refine JO.t (ob_buildSlice (cs := [_, _, _]) sl_sl_api_Value (by omega) (by omega) (.cons rfl .nil) rfl rfl rfl) rfl ?_
  refine JO.t (ob_assign rfl) rfl ?_
  refine JO.nil ?_
  repeat (first | refine JX.next ?_ | refine JX.normal_block ?_)
  refine J.sel [2] (.cons rfl .nil) ?_
  repeat refine J.seq ?_
  refine J.ret ?_
  repeat (first | refine JX.ret_pass ?_ | refine JX.ret_block ?_)
  exact JX.ret1sub rfl rfl rfl (Sub.newSlC v3_len rfl rfl (Nat.le_refl _))
theorem c_law15_awake  : CallTy Try.prog f_law15_awake [] (.is (.bool true)) :=
  CallTy.of (fn := Try.f10) Try.func10 (n := 25) rfl rfl rfl (fun _ _ => by kernel_rfl) fun E W => by
  refine J.bigger (N := 0) (Nat.zero_le _) ?_
  repeat refine J.seq ?_
  refine J.plain ?_
  refine JO.t (ob_assign rfl) rfl ?_
  refine JO.nil ?_
  repeat (first | refine JX.next ?_ | refine JX.normal_block ?_)
  refine J.sel [] .nil ?_
  repeat refine J.seq ?_
  refine J.plain ?_
  refine JO.t (ob_call rfl (c_law15_num 1) (.one rfl .nil)) rfl ?_
  refine JO.t (ob_call rfl (c_law15_num 3) (.one rfl .nil)) rfl ?_
  refine JO.t (ob_call rfl (c_law15_num 2) (.one rfl .nil)) rfl ?_
  refine JO.t (ob_buildRows3 (r0 := [nV 1]) (r1 := [nV 3]) (r2 := [nV 2]) sl_sl_sl_api_Value rfl rfl rfl) rfl ?_
  refine JO.t (ob_call rfl (c_law15_num 5) (.one rfl .nil)) rfl ?_
  refine JO.t (ob_call rfl (c_law15_num 5) (.one rfl .nil)) rfl ?_
  refine JO.t (ob_call rfl (c_law15_num 4) (.one rfl .nil)) rfl ?_
  refine JO.t (ob_buildRows3 (r0 := [nV 5]) (r1 := [nV 5]) (r2 := [nV 4]) sl_sl_sl_api_Value rfl rfl rfl) rfl ?_
  refine JO.t (ob_buildSlice (cs := [_]) sl_sl_bool (by omega) (by omega) (.cons rfl .nil) rfl rfl rfl) rfl ?_
  refine JO.t (ob_call rfl (c_order_Top 0 awR awK [false] 2 (by decide) (by decide) (by decide) (by decide)) (.one rfl (.one rfl (.sub rfl (Sub.nsl (Sub.newSlC boC_len rfl rfl (Nat.le_refl _)) (by repeat (first | exact List.mem_cons_self | apply List.mem_cons_of_mem))) (.one rfl .nil))))) rfl ?_
  refine JO.t (ob_move rfl) rfl ?_
  refine JO.t (ob_extract0 rfl) rfl ?_
  refine JO.t (ob_extract1 rfl) rfl ?_
  refine JO.t (ob_assign rfl) rfl ?_
  refine JO.t (ob_assign rfl) rfl ?_
  refine JO.nil ?_
  repeat (first | refine JX.next ?_ | refine JX.normal_block ?_)
  refine J.sel [1, 2] (.cons rfl (.cons rfl .nil)) ?_
  repeat refine J.seq ?_
  refine J.reg0 hmx (by kernel_rfl) (by kernel_rfl) ?_
  refine RT.t (ob_move rfl) ?_
  refine RT.t (ob_eql rfl rfl) ?_
  refine RT.t (ob_move rfl) ?_
  refine RT.g rfl rfl rfl (fun hg => ob_move (.inl rfl)) ?_
  refine RT.g rfl rfl rfl (fun hg => ob_call (.inl rfl) (c_law15_num 2) (.one (.inl rfl) .nil)) ?_
  refine RT.g rfl rfl rfl (fun hg => ob_call (.inl rfl) (c_law15_num 1) (.one (.inl rfl) .nil)) ?_
  refine RT.g rfl rfl rfl (fun hg => ob_buildRows2 (r0 := [nV 2]) (r1 := [nV 1]) sl_sl_sl_api_Value (.inr ⟨_, rfl, fun h => h⟩) (.inr ⟨_, rfl, fun h => h⟩)) ?_
  refine RT.g rfl rfl rfl (fun hg => ob_call (.inl rfl) (c_ref15_Same (topO awR awK [false] 2) [[nV 2], [nV 1]] (by rw [aw_top]; decide) (by rw [aw_top]; decide)) (.sub (.inr ⟨_, rfl, fun h => h⟩) Sub.rowsW (.one (.inr ⟨_, rfl, fun h => h⟩) .nil))) ?_
  refine RT.t (ob_pickAnd rfl rfl rfl id) ?_
  refine RT.t (ob_assign rfl) ?_
  refine RT.nil ?_
  refine FinS.nil0 ?_
  repeat (first | refine JX.next ?_ | refine JX.normal_block ?_)
  refine J.sel [0] (.cons rfl .nil) ?_
  repeat refine J.seq ?_
  refine J.ret ?_
  repeat (first | refine JX.ret_pass ?_ | refine JX.ret_block ?_)
  exact JX.ret1is rfl rfl (by rw [topE_ok aw_ok, aw_top]; rw [(sameR_iff _ _).2 rfl]; rfl)
end Go.Proofs.Ytgpikmonklainaa
