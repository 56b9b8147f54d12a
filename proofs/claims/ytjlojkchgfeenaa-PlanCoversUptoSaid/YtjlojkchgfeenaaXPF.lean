/- Answers on reads that the document fixes. No condition. -/
import Derived.Test.YtjlojkchgfeenaaXPE
import Derived.Test.YtjlojkchgfeenaaXG3
set_option maxRecDepth 20000
namespace Go.Proofs.Ytjlojkchgfeenaa
open Go Go.Vc
abbrev five : V3 := ⟨1, 5, ⟨#[]⟩⟩
def pwS : Ex := .mk 24 0 0 ⟨#[]⟩ ⟨#[]⟩ ⟨#[]⟩ 0 []
def pwV : Ex := .mk 1 1 5 ⟨#[]⟩ ⟨#[]⟩ ⟨#[]⟩ 0 []
def pwX : Ex := .mk 10 0 0 ⟨#[]⟩ ⟨#[]⟩ ⟨#[]⟩ 0 [pwS, pwV]
def pwCols : List C4 := [⟨⟨#[97]⟩, 1, false, false⟩]
def pwIx : List I4 := [⟨⟨#[105]⟩, ⟨#[]⟩, 0, false⟩, ⟨⟨#[104]⟩, ⟨#[]⟩, 0, true⟩]
theorem pw_q : questF pwCols pwX = (0, 10, five) := by
  have h1 : firstX pwX = pwX := by unfold pwX; rw [firstX]; simp
  unfold questF
  rw [h1]
  simp [pwX, Ex.K, Ex.KS, turnF, pwS, pwV, litF, askF, Ex.SL, Ex.VK, Ex.VN, Ex.VS, okF, pwCols, seq]
theorem pw_ch : chooseF [pwX] ⟨#[116]⟩ pwCols pwIx = (⟨⟨#[116]⟩, 0, five, five⟩, 1) := by
  unfold chooseF
  simp only [List.length_cons, List.length_nil, List.getD_cons_zero]
  rw [if_neg (by decide), pw_q]
  simp [chooseQ, finCh, pwIx, idxG, atF]
theorem pw_ch0 : chooseF [] ⟨#[116]⟩ pwCols [] = (allR ⟨#[116]⟩, -1) := by
  unfold chooseF
  rw [if_pos (by decide)]
theorem c_pw1 : CallTy Try.prog f_plan_Choose [.rep (ExsR [pwX]), .rep (TabR ⟨#[116]⟩ pwCols), .rep (SlG I4.cells 4 pwIx)] (.tup2 (.is (rdV ⟨⟨#[116]⟩, 0, five, five⟩)) (.is (.int .i64 1))) := by
  have h := c_plan_Choose [pwX] ⟨#[116]⟩ pwCols pwIx (by decide) (fun h => by rw [show ([pwX].getD 0 exD) = pwX from rfl, pw_q] at h; simp at h)
  rw [pw_ch] at h
  exact h
theorem c_pw0 : CallTy Try.prog f_plan_Choose [.rep (ExsR []), .rep (TabR ⟨#[116]⟩ pwCols), .rep (SlG I4.cells 4 [])] (.tup2 (.is (rdV (allR ⟨#[116]⟩))) (.is (.int .i64 (-1)))) := by
  have h := c_plan_Choose [] ⟨#[116]⟩ pwCols [] (by decide) (fun h => by
    have e : questF pwCols (([] : List Ex).getD 0 exD) = (0, 0, zero3) := by
      show questF pwCols exD = _
      have h1 : firstX exD = exD := by unfold exD; rw [firstX]; intro _ _ _ _ _ _ _ _ _ h; simp at h
      unfold questF
      rw [h1]
      simp [exD, Ex.K, turnF]
    rw [e] at h
    simp at h)
  rw [pw_ch0] at h
  exact h
def pwXs : List XC := [⟨pwS, exCells 24 0 0 ⟨#[]⟩ ⟨#[]⟩ ⟨#[]⟩ 0 none 0 0, rfl⟩, ⟨pwV, exCells 1 1 5 ⟨#[]⟩ ⟨#[]⟩ ⟨#[]⟩ 0 none 0 0, rfl⟩]
theorem pwXF (w : World) : XCF pwXs w := fun p hp => by
  rcases List.mem_cons.1 hp with rfl | hp
  · exact exR_leaf
  · rcases List.mem_cons.1 hp with rfl | hp
    · exact exR_leaf
    · cases hp
theorem pw_c1 : coversF ⟨⟨#[116]⟩, 0, five, five⟩ [five] = true := by simp [coversF, v3at, five, vcmp, vcmpF, orL, cmpF, scmpF, slt, seq, Op.bytesLess]
theorem pw_c0 : coversF ⟨⟨#[116]⟩, 0, five, five⟩ [⟨1, 0, ⟨#[]⟩⟩] = false := by simp [coversF, v3at, five, vcmp, vcmpF, orL, cmpF, scmpF, slt, seq, Op.bytesLess]
theorem c_law18_awake  : CallTy Try.prog f_law18_awake [] (.is (.bool true)) :=
  CallTy.of (fn := Try.f28) Try.func28 (n := 63) rfl rfl rfl (fun _ _ => by kernel_rfl) fun E W => by
  repeat refine J.seq ?_
  refine J.plain ?_
  refine JO.t (ob_assign rfl) rfl ?_
  refine JO.nil ?_
  repeat (first | refine JX.next ?_ | refine JX.normal_block ?_)
  refine J.sel [] .nil ?_
  repeat refine J.seq ?_
  refine J.plain ?_
  refine JO.t (ob_build (cs := [_, _, _, _]) sh_api_Column (.cons rfl (.cons rfl .nil)) rfl rfl) rfl ?_
  refine JO.t (ob_buildSlice (cs := [_, _, _, _]) sl_sl_api_Column (by omega) (by omega) (.cons rfl .nil) rfl rfl rfl) rfl ?_
  refine JO.openNew (s := 9) rfl (fun bc => ?_)
  refine JO.fact (RowG C4.cells 4 pwCols (some ⟨bc, 0, none⟩) 1) (fun E w hG _ => fun w1 hk => row_heap C4.len rfl (hG _ List.mem_cons_self w1 hk)) ?_
  refine JO.t (ob_build (cs := [_, _]) sh_api_Table (.cons rfl (.cons rfl .nil)) rfl rfl) rfl ?_
  refine JO.alloc zo_api_Table rfl fun b1 => ?_
  refine JO.m (obm_store rfl rfl (by repeat (first | exact .here | apply Upd.there)) (by first | exact cnt_is rfl rfl | exact cnt_ex) (by first | exact cnt_is rfl rfl | exact cnt_ex | exact cnt_aggO) ss_api_Table) (by rfl) ?_
  refine JO.nil ?_
  repeat (first | refine JX.next ?_ | refine JX.normal_block ?_)
  refine J.sel [1] (.cons rfl .nil) ?_
  repeat refine J.seq ?_
  refine J.plain ?_
  refine JO.t (ob_build (cs := [_, _, _]) sh_api_Value (.cons rfl (.cons rfl .nil)) rfl rfl) rfl ?_
  refine JO.alloc zo_api_Value rfl fun b2 => ?_
  refine JO.m (obm_store rfl rfl (by repeat (first | exact .here | apply Upd.there)) (by first | exact cnt_is rfl rfl | exact cnt_ex) (by first | exact cnt_is rfl rfl | exact cnt_ex | exact cnt_aggO) ss_api_Value) (by rfl) ?_
  refine JO.nil ?_
  repeat (first | refine JX.next ?_ | refine JX.normal_block ?_)
  refine J.sel [1, 2] (.cons rfl (.cons rfl .nil)) ?_
  repeat refine J.seq ?_
  refine J.plain ?_
  refine JO.t (ob_build (cs := [_, _, _, _, _, _, _, _]) sh_api_Expr (.cons rfl .nil) rfl rfl) rfl ?_
  refine JO.t (ob_ldN (cs := [_, _, _]) sz_api_Value rfl rfl rfl) rfl ?_
  refine JO.t (ob_build (cs := [_, _, _, _, _, _, _, _]) sh_api_Expr (.cons rfl (.cons rfl .nil)) rfl rfl) rfl ?_
  refine JO.t (ob_buildSlice (cs := [_, _, _, _, _, _, _, _, _, _, _, _, _, _, _, _]) sl_sl_api_Expr (by omega) (by omega) (.cons rfl (.cons rfl .nil)) rfl rfl rfl) rfl ?_
  refine JO.openNew (s := 15) rfl (fun bk => ?_)
  refine JO.fact (KidsR [pwS, pwV] (some ⟨bk, 0, none⟩) 2) (fun E w hG _ => fun w1 hk => kids_heap (xs := pwXs) rfl (hG _ List.mem_cons_self w1 hk) (pwXF w1)) ?_
  refine JO.t (ob_build (cs := [_, _, _, _, _, _, _, _]) sh_api_Expr (.cons rfl (.cons rfl .nil)) rfl rfl) rfl ?_
  refine JO.alloc zo_api_Expr rfl fun b3 => ?_
  refine JO.m (obm_store rfl rfl (by repeat (first | exact .here | apply Upd.there)) (by first | exact cnt_is rfl rfl | exact cnt_ex) (by first | exact cnt_is rfl rfl | exact cnt_ex | exact cnt_aggO) ss_api_Expr) (by rfl) ?_
  refine JO.nil ?_
  repeat (first | refine JX.next ?_ | refine JX.normal_block ?_)
  refine J.sel [1, 2, 3] (.cons rfl (.cons rfl (.cons rfl .nil))) ?_
  repeat refine J.seq ?_
  refine J.plain ?_
  refine JO.t (ob_ldN (cs := [_, _, _, _, _, _, _, _]) sz_api_Expr rfl rfl rfl) rfl ?_
  refine JO.t (ob_buildSlice (cs := [_, _, _, _, _, _, _, _]) sl_sl_api_Expr (by omega) (by omega) (.cons rfl .nil) rfl rfl rfl) rfl ?_
  refine JO.openNew (s := 19) rfl (fun bw => ?_)
  refine JO.fact (KidsR [pwX] (some ⟨bw, 0, none⟩) 1) (fun E w hG _ => fun w1 hk => kids_heap (xs := [⟨pwX, exCells 10 0 0 ⟨#[]⟩ ⟨#[]⟩ ⟨#[]⟩ 0 (some ⟨bk, 0, none⟩) 2 2, rfl⟩]) rfl (hG _ List.mem_cons_self w1 hk) (fun p hp => by rcases List.mem_cons.1 hp with rfl | hp; exact exR_mk.2 ⟨_, _, _, rfl, hG (KidsR [pwS, pwV] (some ⟨bk, 0, none⟩) 2) (by repeat (first | exact List.mem_cons_self | apply List.mem_cons_of_mem)) w1 hk⟩; cases hp)) ?_
  refine JO.t (ob_ldN (cs := [_, _]) sz_api_Table rfl rfl rfl) rfl ?_
  refine JO.t (ob_build (cs := [_, _, _, _]) sh_api_Index (.cons rfl .nil) rfl rfl) rfl ?_
  refine JO.t (ob_build (cs := [_, _, _, _]) sh_api_Index (.cons rfl (.cons rfl .nil)) rfl rfl) rfl ?_
  refine JO.t (ob_buildSlice (cs := [_, _, _, _, _, _, _, _]) sl_sl_api_Index (by omega) (by omega) (.cons rfl (.cons rfl .nil)) rfl rfl rfl) rfl ?_
  refine JO.t (ob_call rfl (c_pw1) (.sub rfl (Sub.exsF (by repeat (first | exact List.mem_cons_self | apply List.mem_cons_of_mem))) (.sub rfl (Sub.tab (by repeat (first | exact List.mem_cons_self | apply List.mem_cons_of_mem))) (.sub rfl (Sub.newSlG I4.len rfl rfl) .nil)))) rfl ?_
  refine JO.t (ob_move rfl) rfl ?_
  refine JO.t (ob_extract0 rfl) rfl ?_
  refine JO.t (ob_extract1 rfl) rfl ?_
  refine JO.alloc zo_api_Read rfl fun b4 => ?_
  refine JO.m (obm_store rfl rfl (by repeat (first | exact .here | apply Upd.there)) (by first | exact cnt_is rfl rfl | exact cnt_ex) (by first | exact cnt_is rfl rfl | exact cnt_ex | exact cnt_aggO) ss_api_Read) (by rfl) ?_
  refine JO.t (ob_assign rfl) rfl ?_
  refine JO.nil ?_
  repeat (first | refine JX.next ?_ | refine JX.normal_block ?_)
  refine J.sel [1, 2, 4, 5] (.cons rfl (.cons rfl (.cons rfl (.cons rfl .nil)))) ?_
  repeat refine J.seq ?_
  refine J.plain ?_
  refine JO.t (ob_ldN (cs := [_, _]) sz_api_Table rfl rfl rfl) rfl ?_
  refine JO.t (ob_call rfl (c_pw0) (.sub rfl (Sub.exsNil) (.sub rfl (Sub.tab (by repeat (first | exact List.mem_cons_self | apply List.mem_cons_of_mem))) (.sub rfl (Sub.slNil) .nil)))) rfl ?_
  refine JO.t (ob_move rfl) rfl ?_
  refine JO.t (ob_extract0 rfl) rfl ?_
  refine JO.t (ob_extract1 rfl) rfl ?_
  refine JO.alloc zo_api_Read rfl fun b6 => ?_
  refine JO.m (obm_store rfl rfl (by repeat (first | exact .here | apply Upd.there)) (by first | exact cnt_is rfl rfl | exact cnt_ex) (by first | exact cnt_is rfl rfl | exact cnt_ex | exact cnt_aggO) ss_api_Read) (by rfl) ?_
  refine JO.t (ob_assign rfl) rfl ?_
  refine JO.nil ?_
  repeat (first | refine JX.next ?_ | refine JX.normal_block ?_)
  refine J.sel [2, 4, 5, 6, 7] (.cons rfl (.cons rfl (.cons rfl (.cons rfl (.cons rfl .nil))))) ?_
  repeat refine J.seq ?_
  refine J.reg0 hmx (by kernel_rfl) (by kernel_rfl) ?_
  refine RT.t (ob_ldN (cs := [_, _, _, _, _, _, _, _]) sz_api_Read rfl rfl rfl) ?_
  refine RT.t (ob_ldN (cs := [_, _, _]) sz_api_Value rfl rfl rfl) ?_
  refine RT.t (ob_ldN (cs := [_, _, _]) sz_api_Value rfl rfl rfl) ?_
  refine RT.t (ob_build (cs := [_, _, _, _, _, _, _, _]) sh_api_Read (.cons rfl (.cons rfl (.cons rfl .nil))) rfl rfl) ?_
  refine RT.t (ob_req req_api_Read (a := five) (b := five) (a' := five) (b' := five) rfl rfl) ?_
  refine RT.t (ob_move rfl) ?_
  refine RT.g rfl rfl rfl (fun hg => ob_move (.inl rfl)) ?_
  refine RT.g rfl rfl rfl (fun hg => ob_eql (.inr ⟨_, rfl, fun h => h⟩) (.inl rfl)) ?_
  refine RT.t (ob_pickAnd rfl rfl rfl id) ?_
  refine RT.t (ob_move rfl) ?_
  refine RT.g rfl rfl rfl (fun hg => ob_fieldAddr fo_api_Read_1 (.inl rfl)) ?_
  refine RT.g rfl rfl rfl (fun hg => ob_ld1 sz_int (.inr ⟨_, rfl, fun h => h⟩) rfl) ?_
  refine RT.g rfl rfl rfl (fun hg => ob_eql (.inr ⟨_, rfl, fun h => h⟩) (.inl rfl)) ?_
  refine RT.t (ob_pickAnd rfl rfl rfl id) ?_
  refine RT.t (ob_move rfl) ?_
  refine RT.g rfl rfl rfl (fun hg => ob_move (.inl rfl)) ?_
  refine RT.g rfl rfl rfl (fun hg => ob_eql (.inr ⟨_, rfl, fun h => h⟩) (.inl rfl)) ?_
  refine RT.t (ob_pickAnd rfl rfl rfl id) ?_
  refine RT.t (ob_move rfl) ?_
  refine RT.g rfl rfl rfl (fun hg => ob_ldN (cs := [_, _, _, _, _, _, _, _]) sz_api_Read (.inl rfl) rfl rfl) ?_
  refine RT.g rfl rfl rfl (fun hg => ob_ldN (cs := [_, _, _]) sz_api_Value (.inl rfl) rfl rfl) ?_
  refine RT.g rfl rfl rfl (fun hg => ob_buildSlice (cs := [_, _, _]) sl_sl_api_Value (by omega) (by omega) (.cons (.inr ⟨_, rfl, fun h => h⟩) .nil) rfl rfl rfl) ?_
  refine RT.g rfl rfl rfl (fun hg => ob_call (.inl rfl) (c_plan_Covers ⟨⟨#[116]⟩, 0, five, five⟩ [five]) (.one (.inr ⟨_, rfl, fun h => h⟩) (.sub (.inr ⟨_, rfl, fun h => h⟩) (Sub.newRow rfl rfl) .nil))) ?_
  refine RT.t (ob_pickAnd rfl rfl rfl id) ?_
  refine RT.t (ob_move rfl) ?_
  refine RT.g rfl rfl rfl (fun hg => ob_ldN (cs := [_, _, _, _, _, _, _, _]) sz_api_Read (.inl rfl) rfl rfl) ?_
  refine RT.g rfl rfl rfl (fun hg => ob_build (cs := [_, _, _]) sh_api_Value (.cons (.inl rfl) .nil) rfl rfl) ?_
  refine RT.g rfl rfl rfl (fun hg => ob_buildSlice (cs := [_, _, _]) sl_sl_api_Value (by omega) (by omega) (.cons (.inr ⟨_, rfl, fun h => h⟩) .nil) rfl rfl rfl) ?_
  refine RT.g rfl rfl rfl (fun hg => ob_call (.inl rfl) (c_plan_Covers ⟨⟨#[116]⟩, 0, five, five⟩ [⟨1, 0, ⟨#[]⟩⟩]) (.one (.inr ⟨_, rfl, fun h => h⟩) (.sub (.inr ⟨_, rfl, fun h => h⟩) (Sub.newRow rfl rfl) .nil))) ?_
  refine RT.g rfl rfl rfl (fun hg => ob_not (.inr ⟨_, rfl, fun h => h⟩)) ?_
  refine RT.t (ob_pickAnd rfl rfl rfl id) ?_
  refine RT.t (ob_assign rfl) ?_
  refine RT.nil ?_
  refine FinS.nil0 ?_
  repeat (first | refine JX.next ?_ | refine JX.normal_block ?_)
  refine J.sel [0] (.cons rfl .nil) ?_
  repeat refine J.seq ?_
  refine J.ret ?_
  repeat (first | refine JX.ret_pass ?_ | refine JX.ret_block ?_)
  exact JX.ret1is rfl rfl (by rw [pw_c1, pw_c0]; simp [veq, seq, allR])
end Go.Proofs.Ytjlojkchgfeenaa
