/- group: the laws that are awake. No condition. -/
import Derived.Test.YtgpikmonklainaaXGZ
set_option maxRecDepth 20000
namespace Go.Proofs.Ytgpikmonklainaa
open Go Go.Vc
open Go.Vl Go.Od
theorem gaI : ∀ r ∈ gaA, ∀ v ∈ r, I64 v.n := by simp [gaA, I64]
theorem gbI : ∀ r ∈ gbA, ∀ v ∈ r, I64 v.n := by simp [gbA, I64]
theorem c_law16_num (n : Int) : CallTy Try.prog f_law16_num [.is (.int .i64 n)] (.is (.agg #[.int .i64 (nV n).k, .int .i64 (nV n).n, .string (nV n).s])) :=
  CallTy.of (fn := Try.f20) Try.func20 (n := 5) rfl rfl rfl (fun _ _ => by kernel_rfl) fun E W => by
  repeat refine J.seq ?_
  refine J.plain ?_
  refine JO.alloc zo_api_Value rfl fun b2 => ?_
  refine JO.nil ?_
  repeat (first | refine JX.next ?_ | refine JX.normal_block ?_)
  refine J.sel [0, 2] (.cons rfl (.cons rfl .nil)) ?_
  repeat refine J.seq ?_
  refine J.plain ?_
  refine JO.t (ob_move rfl) rfl ?_
  refine JO.t (ob_build (cs := [_, _, _]) sh_api_Value (.cons rfl (.cons rfl .nil)) rfl rfl) rfl ?_
  refine JO.m (obm_store rfl rfl (by repeat (first | exact .here | apply Upd.there)) (by first | exact cnt_is rfl rfl | exact cnt_ex) (by first | exact cnt_is rfl rfl | exact cnt_ex | exact cnt_aggO) ss_api_Value) (by rfl) ?_
  refine JO.nil ?_
  repeat (first | refine JX.next ?_ | refine JX.normal_block ?_)
  refine J.sel [2] (.cons rfl .nil) ?_
  repeat refine J.seq ?_
  refine J.ret ?_
  repeat (first | refine JX.ret_pass ?_ | refine JX.ret_block ?_)
  exact JX.retCis rfl rfl sz_api_Value HasOwn.mem rfl  (by rfl)
theorem c_law16_none2  : CallTy Try.prog f_law16_none2 [] (.rep (RowsR noG [[], []])) :=
  CallTy.of (fn := Try.f19) Try.func19 (n := 2) rfl rfl rfl (fun _ _ => by kernel_rfl) fun E W => by
  repeat refine J.seq ?_
  refine J.plain ?_
  refine JO.t (ob_assign rfl) rfl ?_
  refine JO.nil ?_
  repeat (first | refine JX.next ?_ | refine JX.normal_block ?_)
  refine J.sel [] .nil ?_
  repeat refine J.seq ?_
  refine J.plain ?_
  refine JO.mkSl1 un_sl_sl_api_Value (n := 2) (z := .slice none 0 0) (bytes := 24) (by kernel_rfl) rfl rfl rfl rfl rfl (by omega) (by omega) rfl (fun b1 => ?_)
  refine JO.t (ob_assign rfl) rfl ?_
  refine JO.nil ?_
  repeat (first | refine JX.next ?_ | refine JX.normal_block ?_)
  refine J.sel [0] (.cons rfl .nil) ?_
  repeat refine J.seq ?_
  refine J.ret ?_
  repeat (first | refine JX.ret_pass ?_ | refine JX.ret_block ?_)
  refine JX.freeze (b := b1) (e := ty_sl_api_Value) (cs := List.replicate 2 (.slice none 0 0)) (fun _ h => h) rfl rfl ?_
  exact JX.ret1sub rfl rfl rfl (Sub.rowsNone (by repeat (first | exact List.mem_cons_self | apply List.mem_cons_of_mem)))
theorem c_law16_awake  : CallTy Try.prog f_law16_awake [] (.is (.bool true)) :=
  CallTy.of (fn := Try.f16) Try.func16 (n := 52) rfl rfl rfl (fun _ _ => by kernel_rfl) fun E W => by
  repeat refine J.seq ?_
  refine J.plain ?_
  refine JO.t (ob_assign rfl) rfl ?_
  refine JO.nil ?_
  repeat (first | refine JX.next ?_ | refine JX.normal_block ?_)
  refine J.sel [] .nil ?_
  repeat refine J.seq ?_
  refine J.plain ?_
  refine JO.t (ob_call rfl (c_law16_num 7) (.one rfl .nil)) rfl ?_
  refine JO.t (ob_buildSlice (cs := [_, _, _]) sl_sl_api_Value (by omega) (by omega) (.cons rfl .nil) rfl rfl rfl) rfl ?_
  refine JO.t (ob_call rfl (c_law16_num 5) (.one rfl .nil)) rfl ?_
  refine JO.t (ob_buildSlice (cs := [_, _, _]) sl_sl_api_Value (by omega) (by omega) (.cons rfl .nil) rfl rfl rfl) rfl ?_
  refine JO.t (ob_call rfl (c_law16_num 7) (.one rfl .nil)) rfl ?_
  refine JO.t (ob_buildSlice (cs := [_, _, _]) sl_sl_api_Value (by omega) (by omega) (.cons rfl .nil) rfl rfl rfl) rfl ?_
  refine JO.t (ob_bRows3 (r0 := [nV 7]) (r1 := [nV 5]) (r2 := [nV 7]) sl_sl_sl_api_Value rfl (Sub.newSlC v3_len rfl rfl (Nat.le_refl _)) rfl (Sub.newSlC v3_len rfl rfl (Nat.le_refl _)) rfl (Sub.newSlC v3_len rfl rfl (Nat.le_refl _))) rfl ?_
  refine JO.t (ob_call rfl (c_law16_num 1) (.one rfl .nil)) rfl ?_
  refine JO.t (ob_buildSlice (cs := [_, _, _]) sl_sl_api_Value (by omega) (by omega) (.cons rfl .nil) rfl rfl rfl) rfl ?_
  refine JO.t (ob_call rfl (c_law16_num 2) (.one rfl .nil)) rfl ?_
  refine JO.t (ob_buildSlice (cs := [_, _, _]) sl_sl_api_Value (by omega) (by omega) (.cons rfl .nil) rfl rfl rfl) rfl ?_
  refine JO.t (ob_build (cs := [_, _, _]) sh_api_Value .nil rfl rfl) rfl ?_
  refine JO.t (ob_buildSlice (cs := [_, _, _]) sl_sl_api_Value (by omega) (by omega) (.cons rfl .nil) rfl rfl rfl) rfl ?_
  refine JO.t (ob_bRows3 (r0 := [nV 1]) (r1 := [nV 2]) (r2 := [v30]) sl_sl_sl_api_Value rfl (Sub.newSlC v3_len rfl rfl (Nat.le_refl _)) rfl (Sub.newSlC v3_len rfl rfl (Nat.le_refl _)) rfl (Sub.newSlC v3_len rfl rfl (Nat.le_refl _))) rfl ?_
  refine JO.t (ob_buildSlice (cs := [_]) sl_sl_int (by omega) (by omega) (.cons rfl .nil) rfl rfl rfl) rfl ?_
  refine JO.t (ob_call rfl (c_group_Rows gaK gaA [21] false (by decide) (by decide) (by decide) (by decide) (by decide) gaI) (.one rfl (.one rfl (.sub rfl (Sub.newSlG kC_len rfl rfl) (.one rfl .nil))))) rfl ?_
  refine JO.t (ob_move rfl) rfl ?_
  refine JO.t (ob_extract0 rfl) rfl ?_
  refine JO.t (ob_extract1 rfl) rfl ?_
  refine JO.t (ob_assign rfl) rfl ?_
  refine JO.t (ob_assign rfl) rfl ?_
  refine JO.nil ?_
  repeat (first | refine JX.next ?_ | refine JX.normal_block ?_)
  refine J.sel [1, 2] (.cons rfl (.cons rfl .nil)) ?_
  repeat refine J.seq ?_
  refine J.plain ?_
  refine JO.t (ob_bRows2 (r0 := []) (r1 := []) sl_sl_sl_api_Value rfl Sub.slNilC rfl Sub.slNilC) rfl ?_
  refine JO.t (ob_call rfl (c_law16_num 9223372036854775807) (.one rfl .nil)) rfl ?_
  refine JO.t (ob_buildSlice (cs := [_, _, _]) sl_sl_api_Value (by omega) (by omega) (.cons rfl .nil) rfl rfl rfl) rfl ?_
  refine JO.t (ob_call rfl (c_law16_num 1) (.one rfl .nil)) rfl ?_
  refine JO.t (ob_buildSlice (cs := [_, _, _]) sl_sl_api_Value (by omega) (by omega) (.cons rfl .nil) rfl rfl rfl) rfl ?_
  refine JO.t (ob_bRows2 (r0 := [nV 9223372036854775807]) (r1 := [nV 1]) sl_sl_sl_api_Value rfl (Sub.newSlC v3_len rfl rfl (Nat.le_refl _)) rfl (Sub.newSlC v3_len rfl rfl (Nat.le_refl _))) rfl ?_
  refine JO.t (ob_buildSlice (cs := [_]) sl_sl_int (by omega) (by omega) (.cons rfl .nil) rfl rfl rfl) rfl ?_
  refine JO.t (ob_call rfl (c_group_Rows gbK gbA [21] false (by decide) (by decide) (by decide) (by decide) (by decide) gbI) (.one rfl (.one rfl (.sub rfl (Sub.newSlG kC_len rfl rfl) (.one rfl .nil))))) rfl ?_
  refine JO.t (ob_move rfl) rfl ?_
  refine JO.t (ob_extract0 rfl) rfl ?_
  refine JO.t (ob_extract1 rfl) rfl ?_
  refine JO.t (ob_assign rfl) rfl ?_
  refine JO.t (ob_assign rfl) rfl ?_
  refine JO.nil ?_
  repeat (first | refine JX.next ?_ | refine JX.normal_block ?_)
  refine J.sel [1, 2, 4] (.cons rfl (.cons rfl (.cons rfl .nil))) ?_
  repeat refine J.seq ?_
  refine J.reg0 hmx (by kernel_rfl) (by kernel_rfl) ?_
  refine RT.t (ob_move rfl) ?_
  refine RT.t (ob_eql rfl rfl) ?_
  refine RT.t (ob_move rfl) ?_
  refine RT.g rfl rfl rfl (fun hg => ob_move (.inl rfl)) ?_
  refine RT.g rfl rfl rfl (fun hg => ob_call (.inl rfl) (c_law16_num 5) (.one (.inl rfl) .nil)) ?_
  refine RT.g rfl rfl rfl (fun hg => ob_call (.inl rfl) (c_law16_num 2) (.one (.inl rfl) .nil)) ?_
  refine RT.g rfl rfl rfl (fun hg => ob_buildSlice (cs := [_, _, _, _, _, _]) sl_sl_api_Value (by omega) (by omega) (.cons (.inr ⟨_, rfl, fun h => h⟩) (.cons (.inr ⟨_, rfl, fun h => h⟩) .nil)) rfl rfl rfl) ?_
  refine RT.g rfl rfl rfl (fun hg => ob_call (.inl rfl) (c_law16_num 7) (.one (.inl rfl) .nil)) ?_
  refine RT.g rfl rfl rfl (fun hg => ob_call (.inl rfl) (c_law16_num 1) (.one (.inl rfl) .nil)) ?_
  refine RT.g rfl rfl rfl (fun hg => ob_buildSlice (cs := [_, _, _, _, _, _]) sl_sl_api_Value (by omega) (by omega) (.cons (.inr ⟨_, rfl, fun h => h⟩) (.cons (.inr ⟨_, rfl, fun h => h⟩) .nil)) rfl rfl rfl) ?_
  refine RT.g rfl rfl rfl (fun hg => ob_bRows2 (r0 := [nV 5, nV 2]) (r1 := [nV 7, nV 1]) sl_sl_sl_api_Value (.inr ⟨_, rfl, fun h => h⟩) (Sub.newSlC v3_len rfl rfl (Nat.le_refl _)) (.inr ⟨_, rfl, fun h => h⟩) (Sub.newSlC v3_len rfl rfl (Nat.le_refl _))) ?_
  refine RT.g rfl rfl rfl (fun hg => ob_call (.inl rfl) (c_ref15_Same (grpO gaK gaA [21] false).1 [[nV 5, nV 2], [nV 7, nV 1]] (by rw [ga_grp]; decide) (by rw [ga_grp]; decide)) (.one (.inr ⟨_, rfl, fun h => h⟩) (.one (.inr ⟨_, rfl, fun h => h⟩) .nil))) ?_
  refine RT.t (ob_pickAnd rfl rfl rfl id) ?_
  refine RT.t (ob_move rfl) ?_
  refine RT.g rfl rfl rfl (fun hg => ob_move (.inl rfl)) ?_
  refine RT.g rfl rfl rfl (fun hg => ob_eql (.inr ⟨_, rfl, fun h => h⟩) (.inl rfl)) ?_
  refine RT.t (ob_pickAnd rfl rfl rfl id) ?_
  refine RT.t (ob_assign rfl) ?_
  refine RT.nil ?_
  refine FinS.nil0 ?_
  repeat (first | refine JX.next ?_ | refine JX.normal_block ?_)
  refine J.sel [0] (.cons rfl .nil) ?_
  repeat refine J.seq ?_
  refine J.ret ?_
  repeat (first | refine JX.ret_pass ?_ | refine JX.ret_block ?_)
  exact JX.ret1is rfl rfl (by rw [ga_grp, gb_grp, (sameR_iff _ _).2 rfl]; rfl)
end Go.Proofs.Ytgpikmonklainaa
