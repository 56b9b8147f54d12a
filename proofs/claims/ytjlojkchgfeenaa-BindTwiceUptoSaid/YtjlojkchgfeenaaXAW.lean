/- Answers on binding that the document fixes. No condition. -/
import Derived.Test.YtjlojkchgfeenaaXW
import Derived.Test.YtjlojkchgfeenaaXVc29
set_option maxRecDepth 20000
namespace Go.Proofs.Ytjlojkchgfeenaa
open Go Go.Vc
def cols3 : List C3 := [⟨⟨#[116]⟩, ⟨#[97]⟩, 1⟩, ⟨⟨#[116]⟩, ⟨#[98]⟩, 3⟩, ⟨⟨#[117]⟩, ⟨#[97]⟩, 2⟩]
def awC : Ex := .mk 2 0 0 ⟨#[]⟩ ⟨#[]⟩ ⟨#[98]⟩ 0 []
def awV : Ex := .mk 1 3 0 ⟨#[120]⟩ ⟨#[]⟩ ⟨#[]⟩ 0 []
abbrev awX : Ex := .mk 10 0 0 ⟨#[]⟩ ⟨#[]⟩ ⟨#[]⟩ 0 [awC, awV]
abbrev awY : Ex := .mk 10 0 0 ⟨#[]⟩ ⟨#[]⟩ ⟨#[]⟩ 0 [.mk 24 0 0 ⟨#[]⟩ ⟨#[]⟩ ⟨#[]⟩ 1 [], awV]
abbrev awZ : Ex := .mk 2 0 0 ⟨#[]⟩ ⟨#[]⟩ ⟨#[97]⟩ 0 []
theorem aw_c : bindF cols3 awC = (.mk 24 0 0 ⟨#[]⟩ ⟨#[]⟩ ⟨#[]⟩ 1 [], 3, 0) := by
  unfold awC
  rw [bindF]
  simp [bindTop, aggF, kidsB, findCF, fgoF, skipF, seq, cols3, C3.ty]
theorem aw_v : bindF cols3 awV = (awV, 3, 0) := by
  unfold awV
  rw [bindF]
  simp [bindTop, aggF, kidsB, okF]
  decide
theorem aw1 : bindF cols3 awX = (awY, 2, 0) := by
  rw [bindF, bindsF_eq]
  simp [bindTop, aggF, kidsB, aw_c, aw_v, firstE, typedF, onlyF, nodeE]
theorem aw2 : bindF cols3 awZ = (exD, 0, 32) := by
  rw [bindF]
  simp [bindTop, aggF, kidsB, findCF, fgoF, skipF, seq, cols3]
theorem c_aw1 : CallTy Try.prog f_bind_Bind [.rep (ExR awX), .rep (SlG C3.cells 3 cols3)] (.tup3 (.rep (ExR awY)) (.is (.int .i64 2)) (.is (.int .i64 0))) := by
  have h := bindOK cols3 (by decide) awX
  unfold BindOK at h
  rw [aw1] at h
  exact h
theorem c_aw2 : CallTy Try.prog f_bind_Bind [.rep (ExR awZ), .rep (SlG C3.cells 3 cols3)] (.tup3 (.rep (ExR exD)) (.is (.int .i64 0)) (.is (.int .i64 32))) := by
  have h := bindOK cols3 (by decide) awZ
  unfold BindOK at h
  rw [aw2] at h
  exact h
def awXs : List XC := [⟨awC, exCells 2 0 0 ⟨#[]⟩ ⟨#[]⟩ ⟨#[98]⟩ 0 none 0 0, rfl⟩, ⟨awV, exCells 1 3 0 ⟨#[120]⟩ ⟨#[]⟩ ⟨#[]⟩ 0 none 0 0, rfl⟩]
theorem awXF (w : World) : XCF awXs w := fun p hp => by
  rcases List.mem_cons.1 hp with rfl | hp
  · exact exR_leaf
  · rcases List.mem_cons.1 hp with rfl | hp
    · exact exR_leaf
    · cases hp
theorem c_law14_awake  : CallTy Try.prog f_law14_awake [] (.is (.bool true)) :=
  CallTy.of (fn := Try.f15) Try.func15 (n := 64) rfl rfl rfl (fun _ _ => by kernel_rfl) fun E W => by
  repeat refine J.seq ?_
  refine J.plain ?_
  refine JO.t (ob_assign rfl) rfl ?_
  refine JO.nil ?_
  repeat (first | refine JX.next ?_ | refine JX.normal_block ?_)
  refine J.sel [] .nil ?_
  repeat refine J.seq ?_
  refine J.plain ?_
  refine JO.t (ob_build (cs := [_, _, _]) sh_bind_Col (.cons rfl (.cons rfl (.cons rfl .nil))) rfl rfl) rfl ?_
  refine JO.t (ob_build (cs := [_, _, _]) sh_bind_Col (.cons rfl (.cons rfl (.cons rfl .nil))) rfl rfl) rfl ?_
  refine JO.t (ob_build (cs := [_, _, _]) sh_bind_Col (.cons rfl (.cons rfl (.cons rfl .nil))) rfl rfl) rfl ?_
  refine JO.t (ob_buildSlice (cs := [_, _, _, _, _, _, _, _, _]) sl_sl_bind_Col (by omega) (by omega) (.cons rfl (.cons rfl (.cons rfl .nil))) rfl rfl rfl) rfl ?_
  refine JO.t (ob_assign rfl) rfl ?_
  refine JO.nil ?_
  repeat (first | refine JX.next ?_ | refine JX.normal_block ?_)
  refine J.sel [1] (.cons rfl .nil) ?_
  repeat refine J.seq ?_
  refine J.plain ?_
  refine JO.t (ob_build (cs := [_, _, _, _, _, _, _, _]) sh_api_Expr (.cons rfl (.cons rfl .nil)) rfl rfl) rfl ?_
  refine JO.t (ob_build (cs := [_, _, _]) sh_api_Value (.cons rfl (.cons rfl .nil)) rfl rfl) rfl ?_
  refine JO.t (ob_build (cs := [_, _, _, _, _, _, _, _]) sh_api_Expr (.cons rfl (.cons rfl .nil)) rfl rfl) rfl ?_
  refine JO.t (ob_buildSlice (cs := [_, _, _, _, _, _, _, _, _, _, _, _, _, _, _, _]) sl_sl_api_Expr (by omega) (by omega) (.cons rfl (.cons rfl .nil)) rfl rfl rfl) rfl ?_
  refine JO.openNew (s := 16) rfl (fun bk => ?_)
  refine JO.fact (KidsR [awC, awV] (some ⟨bk, 0, none⟩) 2) (fun E w hG _ => fun w1 hk => kids_heap (xs := awXs) rfl (hG _ List.mem_cons_self w1 hk) (awXF w1)) ?_
  refine JO.t (ob_build (cs := [_, _, _, _, _, _, _, _]) sh_api_Expr (.cons rfl (.cons rfl .nil)) rfl rfl) rfl ?_
  refine JO.alloc zo_api_Expr rfl fun b2 => ?_
  refine JO.m (obm_store rfl rfl (by repeat (first | exact .here | apply Upd.there)) (by first | exact cnt_is rfl rfl | exact cnt_ex) (by first | exact cnt_is rfl rfl | exact cnt_ex | exact cnt_aggO) ss_api_Expr) (by rfl) ?_
  refine JO.nil ?_
  repeat (first | refine JX.next ?_ | refine JX.normal_block ?_)
  refine J.sel [1, 2] (.cons rfl (.cons rfl .nil)) ?_
  repeat refine J.seq ?_
  refine J.plain ?_
  refine JO.t (ob_ldN (cs := [_, _, _, _, _, _, _, _]) sz_api_Expr rfl rfl rfl) rfl ?_
  refine JO.t (ob_move rfl) rfl ?_
  refine JO.t (ob_call rfl (c_aw1) (.sub rfl (Sub.exMk (by simp)) (.sub rfl (Sub.newSlG C3.len rfl rfl) .nil))) rfl ?_
  refine JO.t (ob_move rfl) rfl ?_
  refine JO.t (ob_extract30 rfl) rfl ?_
  refine JO.openEx (s := 22) rfl (fun ka kl kc kb ko hkl hka => ?_)
  subst hkl
  refine JO.t (ob_extract31 rfl) rfl ?_
  refine JO.t (ob_extract32 rfl) rfl ?_
  refine JO.alloc zo_api_Expr rfl fun b3 => ?_
  refine JO.m (obm_store rfl rfl (by repeat (first | exact .here | apply Upd.there)) (by first | exact cnt_is rfl rfl | exact cnt_ex) (by first | exact cnt_is rfl rfl | exact cnt_ex | exact cnt_aggO) ss_api_Expr) (by rfl) ?_
  refine JO.t (ob_assign rfl) rfl ?_
  refine JO.t (ob_assign rfl) rfl ?_
  refine JO.nil ?_
  repeat (first | refine JX.next ?_ | refine JX.normal_block ?_)
  refine J.sel [1, 3, 4, 5] (.cons rfl (.cons rfl (.cons rfl (.cons rfl .nil)))) ?_
  repeat refine J.seq ?_
  refine J.plain ?_
  refine JO.t (ob_build (cs := [_, _, _, _, _, _, _, _]) sh_api_Expr (.cons rfl (.cons rfl .nil)) rfl rfl) rfl ?_
  refine JO.t (ob_move rfl) rfl ?_
  refine JO.t (ob_call rfl (c_aw2) (.sub rfl (Sub.exNil) (.sub rfl (Sub.newSlG C3.len rfl rfl) .nil))) rfl ?_
  refine JO.t (ob_move rfl) rfl ?_
  refine JO.t (ob_extract30 rfl) rfl ?_
  refine JO.t (ob_extract31 rfl) rfl ?_
  refine JO.t (ob_extract32 rfl) rfl ?_
  refine JO.alloc zo_api_Expr rfl fun b6 => ?_
  refine JO.m (obm_store rfl rfl (by repeat (first | exact .here | apply Upd.there)) (by first | exact cnt_is rfl rfl | exact cnt_ex) (by first | exact cnt_is rfl rfl | exact cnt_ex | exact cnt_aggO) ss_api_Expr) (by rfl) ?_
  refine JO.t (ob_assign rfl) rfl ?_
  refine JO.t (ob_assign rfl) rfl ?_
  refine JO.nil ?_
  repeat (first | refine JX.next ?_ | refine JX.normal_block ?_)
  refine J.sel [3, 4, 5, 8] (.cons rfl (.cons rfl (.cons rfl (.cons rfl .nil)))) ?_
  repeat refine J.seq ?_
  refine J.reg0 hmx (by kernel_rfl) (by kernel_rfl) ?_
  refine RT.t (ob_move rfl) ?_
  refine RT.t (ob_eql rfl rfl) ?_
  refine RT.t (ob_move rfl) ?_
  refine RT.g rfl rfl rfl (fun hg => ob_move (.inl rfl)) ?_
  refine RT.g rfl rfl rfl (fun hg => ob_eql (.inr ⟨_, rfl, fun h => h⟩) (.inl rfl)) ?_
  refine RT.t (ob_pickAnd rfl rfl rfl id) ?_
  refine RT.t (ob_move rfl) ?_
  refine RT.g rfl rfl rfl (fun hg => ob_fieldAddr fo_api_Expr_5 (.inl rfl)) ?_
  refine RT.g rfl rfl rfl (fun hg => ob_ld1 sz_sl_api_Expr (.inr ⟨_, rfl, fun h => h⟩) rfl) ?_
  refine RT.g rfl rfl rfl (fun hg => ob_len un_sl_api_Expr (.inr ⟨_, rfl, fun h => h⟩)) ?_
  refine RT.g rfl rfl rfl (fun hg => ob_eql (.inr ⟨_, rfl, fun h => h⟩) (.inl rfl)) ?_
  refine RT.t (ob_pickAnd rfl rfl rfl id) ?_
  refine RT.t (ob_move rfl) ?_
  refine RT.g rfl rfl rfl (fun hg => ob_fieldAddr fo_api_Expr_5 (.inl rfl)) ?_
  refine RT.g rfl rfl rfl (fun hg => ob_ld1 sz_sl_api_Expr (.inr ⟨_, rfl, fun h => h⟩) rfl) ?_
  refine RT.g rfl rfl rfl (fun hg => ob_indexAddr el_sl_api_Expr (.inr ⟨_, rfl, fun h => h⟩) (hka (by decide)) (.inl rfl) (by decide) (by decide)) ?_
  refine RT.g rfl rfl rfl (fun hg => ob_fieldAddr fo_api_Expr_0 (.inr ⟨_, rfl, fun h => h⟩)) ?_
  refine RT.g rfl rfl rfl (fun hg => ob_loadKidF (i := 0) (j := 0) (u := .int .i64 24) (k := 24) (vk := 0) (vn := 0) (vs := ⟨#[]⟩) (tb := ⟨#[]⟩) (nm := ⟨#[]⟩) (sl := 1) (ks := []) sz_int (.inr ⟨_, rfl, fun h => h⟩) List.mem_cons_self (hka (by decide)) rfl (by omega) (fun _ _ _ => rfl)) ?_
  refine RT.g rfl rfl rfl (fun hg => ob_eql (.inr ⟨_, rfl, fun h => h⟩) (.inl rfl)) ?_
  refine RT.t (ob_pickAnd rfl rfl rfl id) ?_
  refine RT.t (ob_move rfl) ?_
  refine RT.g rfl rfl rfl (fun hg => ob_fieldAddr fo_api_Expr_5 (.inl rfl)) ?_
  refine RT.g rfl rfl rfl (fun hg => ob_ld1 sz_sl_api_Expr (.inr ⟨_, rfl, fun h => h⟩) rfl) ?_
  refine RT.g rfl rfl rfl (fun hg => ob_indexAddr el_sl_api_Expr (.inr ⟨_, rfl, fun h => h⟩) (hka (by decide)) (.inl rfl) (by decide) (by decide)) ?_
  refine RT.g rfl rfl rfl (fun hg => ob_fieldAddr fo_api_Expr_4 (.inr ⟨_, rfl, fun h => h⟩)) ?_
  refine RT.g rfl rfl rfl (fun hg => ob_loadKidF (i := 0) (j := 6) (u := .int .i64 1) (k := 24) (vk := 0) (vn := 0) (vs := ⟨#[]⟩) (tb := ⟨#[]⟩) (nm := ⟨#[]⟩) (sl := 1) (ks := []) sz_int (.inr ⟨_, rfl, fun h => h⟩) List.mem_cons_self (hka (by decide)) rfl (by omega) (fun _ _ _ => rfl)) ?_
  refine RT.g rfl rfl rfl (fun hg => ob_eql (.inr ⟨_, rfl, fun h => h⟩) (.inl rfl)) ?_
  refine RT.t (ob_pickAnd rfl rfl rfl id) ?_
  refine RT.t (ob_move rfl) ?_
  refine RT.g rfl rfl rfl (fun hg => ob_move (.inl rfl)) ?_
  refine RT.g rfl rfl rfl (fun hg => ob_eql (.inr ⟨_, rfl, fun h => h⟩) (.inl rfl)) ?_
  refine RT.t (ob_pickAnd rfl rfl rfl id) ?_
  refine RT.t (ob_assign rfl) ?_
  refine RT.nil ?_
  refine FinS.nil0 ?_
  repeat (first | refine JX.next ?_ | refine JX.normal_block ?_)
  refine J.sel [0] (.cons rfl .nil) ?_
  repeat refine J.seq ?_
  refine J.ret ?_
  repeat (first | refine JX.ret_pass ?_ | refine JX.ret_block ?_)
  exact JX.ret1is rfl rfl (by rfl)
end Go.Proofs.Ytjlojkchgfeenaa
