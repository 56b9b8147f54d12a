/- How a table is read. No condition. -/
import Derived.Test.YtjlojkchgfeenaaXPC
import Derived.Test.YtjlojkchgfeenaaXG3
set_option maxRecDepth 20000
namespace Go.Proofs.Ytjlojkchgfeenaa
open Go Go.Vc
def allR (nm : ByteArray) : Rd := ⟨nm, -1, zero3, zero3⟩
def ff64 : ByteArray := ⟨Array.replicate 64 255⟩
def greatF (k : Int) : V3 := if (k == 1) then ⟨k, 9223372036854775807, ⟨#[]⟩⟩ else if (k == 2) then ⟨k, 1, ⟨#[]⟩⟩ else ⟨k, 0, ff64⟩
def finCh (nm : ByteArray) (lo hi : V3) (col at_ : Int) : Rd × Int := if at_ < 0 then (allR nm, -1) else (⟨nm, col, lo, hi⟩, at_)
def chooseQ (q : Int × Int × V3) (nm : ByteArray) (ixs : List I4) : Rd × Int :=
  if (q.2.1 == 0) then (allR nm, -1)
  else if (q.2.1 == 10) then (if idxG (atF (fun b => b) q.1) ixs 0 < 0 then finCh nm q.2.2 q.2.2 q.1 (idxG (atF (fun _ => true) q.1) ixs 0) else finCh nm q.2.2 q.2.2 q.1 (idxG (atF (fun b => b) q.1) ixs 0))
  else if ((q.2.1 == 14) || (q.2.1 == 15)) then finCh nm q.2.2 (greatF q.2.2.k) q.1 (idxG (atF (fun b => !b) q.1) ixs 0)
  else finCh nm zero3 q.2.2 q.1 (idxG (atF (fun b => !b) q.1) ixs 0)
def chooseF (xs : List Ex) (nm : ByteArray) (cols : List C4) (ixs : List I4) : Rd × Int := if ((xs.length : Int) != 1) then (allR nm, -1) else chooseQ (questF cols (xs.getD 0 exD)) nm ixs
theorem c_plan_Choose (xs : List Ex) (nm : ByteArray) (cols : List C4) (ixs : List I4) (hl : ixs.length ≤ 9223372036854775806) (hg : (((questF cols (xs.getD 0 exD)).2.1 == 14) || ((questF cols (xs.getD 0 exD)).2.1 == 15)) = true → CallTy Try.prog f_plan_greatest [.is (.int .i64 (questF cols (xs.getD 0 exD)).2.2.k)] (.is (vv (greatF (questF cols (xs.getD 0 exD)).2.2.k)))) : CallTy Try.prog f_plan_Choose [.rep (ExsR xs), .rep (TabR nm cols), .rep (SlG I4.cells 4 ixs)] (.tup2 (.is (rdV (chooseF xs nm cols ixs).1)) (.is (.int .i64 (chooseF xs nm cols ixs).2))) :=
  CallTy.of (fn := Try.f32) Try.func32 (n := 73) rfl rfl rfl (fun _ _ => by kernel_rfl) fun E W => by
  refine J.openExs (s := 0) rfl (fun a len cap b o hlen ha => ?_)
  refine J.openTab (s := 1) rfl (fun ta tl tc tb to htl hta => ?_)
  refine J.openSl (s := 2) rfl (fun ia il ic ib io hil hia => ?_)
  subst hlen htl hil
  repeat refine J.seq ?_
  refine J.plain ?_
  refine JO.box rfl rfl fun b4 => ?_
  refine JO.box rfl rfl fun b5 => ?_
  refine JO.alloc zo_api_Read rfl fun b6 => ?_
  refine JO.t (ob_assign rfl) rfl ?_
  refine JO.nil ?_
  repeat (first | refine JX.next ?_ | refine JX.normal_block ?_)
  refine J.sel [0, 4, 5, 6] (.cons rfl (.cons rfl (.cons rfl (.cons rfl .nil)))) ?_
  repeat refine J.seq ?_
  refine J.plain ?_
  refine JO.t (ob_fieldAddr fo_api_Table_0 rfl) rfl ?_
  refine JO.t (ob_ld1 sz_string rfl rfl) rfl ?_
  refine JO.t (ob_build (cs := [_, _, _, _, _, _, _, _]) sh_api_Read (.cons rfl (.cons rfl .nil)) rfl rfl) rfl ?_
  refine JO.alloc zo_api_Read rfl fun b8 => ?_
  refine JO.m (obm_store rfl rfl (by repeat (first | exact .here | apply Upd.there)) (by first | exact cnt_is rfl rfl | exact cnt_ex) (by first | exact cnt_is rfl rfl | exact cnt_ex | exact cnt_aggO) ss_api_Read) (by rfl) ?_
  refine JO.nil ?_
  repeat (first | refine JX.next ?_ | refine JX.normal_block ?_)
  refine J.sel [0, 4, 5, 6, 8] (.cons rfl (.cons rfl (.cons rfl (.cons rfl (.cons rfl .nil))))) ?_
  repeat refine J.seq ?_
  refine J.plain ?_
  refine JO.t (ob_move rfl) rfl ?_
  refine JO.t (ob_len un_sl_api_Expr rfl) rfl ?_
  refine JO.t (ob_neq rfl rfl) rfl ?_
  refine JO.nil ?_
  repeat (first | refine JX.next ?_ | refine JX.normal_block ?_)
  refine J.sel [0, 4, 5, 6, 8, 20] (.cons rfl (.cons rfl (.cons rfl (.cons rfl (.cons rfl (.cons rfl .nil)))))) ?_
  repeat refine J.seq ?_
  refine J.cond rfl (fun ht20 => ?_) (fun ht20 => ?_)
  ·
    try simp only [decide_eq_true_eq, decide_eq_false_iff_not] at ht20
    repeat refine J.seq ?_
    refine J.plain ?_
    refine JO.t (ob_ldN (cs := [_, _, _, _, _, _, _, _]) sz_api_Read rfl rfl rfl) rfl ?_
    refine JO.m (obm_store rfl rfl (by repeat (first | exact .here | apply Upd.there)) (by first | exact cnt_is rfl rfl | exact cnt_ex) (by first | exact cnt_is rfl rfl | exact cnt_ex | exact cnt_aggO) ss_api_Read) (by rfl) ?_
    refine JO.t (ob_assign rfl) rfl ?_
    refine JO.nil ?_
    repeat (first | refine JX.next ?_ | refine JX.normal_block ?_)
    refine J.sel [6, 7] (.cons rfl (.cons rfl .nil)) ?_
    repeat refine J.seq ?_
    refine J.ret ?_
    repeat (first | refine JX.ret_pass ?_ | refine JX.ret_block ?_)
    exact JX.retC1is rfl rfl sz_api_Read HasOwn.mem rfl rfl (by unfold chooseF; rw [if_pos ht20] <;> rfl) (by unfold chooseF; rw [if_pos ht20] <;> rfl)
  ·
    try simp only [decide_eq_true_eq, decide_eq_false_iff_not] at ht20
    refine J.skip ?_
    repeat (first | refine JX.next ?_ | refine JX.normal_block ?_)
    have hl1 : xs.length = 1 := by have h20 := ht20; simp at h20; omega
    repeat refine J.seq ?_
    refine J.reg0 hmx (by kernel_rfl) (by kernel_rfl) ?_
    refine RT.t (ob_move rfl) ?_
    refine RT.t (ob_indexAddr el_sl_api_Expr rfl (ha (by omega)) rfl (by omega) (by omega)) ?_
    refine RT.t (ob_loadKid (i := 0) (len := xs.length) (kid := xs.getD 0 exD) sz_api_Expr rfl (by repeat (first | exact List.mem_cons_self | apply List.mem_cons_of_mem)) (ha (by omega)) (kid_get (by omega)) (by omega)) ?_
    refine RT.t (ob_ldN (cs := [_, _]) sz_api_Table rfl rfl rfl) ?_
    refine RT.t (ob_call rfl (c_plan_question (xs.getD 0 exD) nm cols) (.one rfl (.sub rfl (Sub.tab (by repeat (first | exact List.mem_cons_self | apply List.mem_cons_of_mem))) .nil))) ?_
    refine RT.t (ob_move rfl) ?_
    refine RT.t (ob_extract30 rfl) ?_
    refine RT.t (ob_extract31 rfl) ?_
    refine RT.t (ob_extract32 rfl) ?_
    refine RT.n zc_int ?_
    refine RT.n zc_api_Value ?_
    refine RT.s 9 rfl rfl rfl rfl (cnt_is rfl rfl) ss_int (by simp) ?_
    refine RT.t (ob_assign rfl) ?_
    refine RT.s 10 rfl rfl rfl rfl (cnt_is rfl rfl) ss_api_Value (by simp) ?_
    refine RT.nil ?_
    refine FinS.cons fun b11 => ?_
    refine FinS.cons fun b9 => ?_
    refine FinS.nil2 ?_
    repeat (first | refine JX.next ?_ | refine JX.normal_block ?_)
    refine J.sel [4, 5, 6, 8, 9, 10, 11] (.cons rfl (.cons rfl (.cons rfl (.cons rfl (.cons rfl (.cons rfl (.cons rfl .nil))))))) ?_
    skip
    repeat refine J.seq ?_
    refine J.plain ?_
    refine JO.t (ob_makeFunc .nil (.cons rfl (.cons rfl .nil))) rfl ?_
    refine JO.t (ob_assign rfl) rfl ?_
    refine JO.nil ?_
    repeat (first | refine JX.next ?_ | refine JX.normal_block ?_)
    refine J.sel [4, 6, 8, 9, 10, 11, 12] (.cons rfl (.cons rfl (.cons rfl (.cons rfl (.cons rfl (.cons rfl (.cons rfl .nil))))))) ?_
    refine J.front b9 (by repeat (first | exact .here | apply Front.there)) ?_
    refine J.freeze1 (b := b9) rfl (fun _ h => h) rfl rfl ?_
    refine J.front b5 (by repeat (first | exact .here | apply Front.there)) ?_
    refine J.freeze1 (b := b5) rfl (fun _ h => h) rfl rfl ?_
    refine J.fact (fun w => (HeapIs b5 [.slice ia ixs.length ic] ty_sl_api_Index w ∧ RowG I4.cells 4 ixs ia ixs.length w) ∧ HeapIs b9 [.int .i64 (questF cols (xs.getD 0 exD)).1] ty_int w) (fun E w hG _ => fun w1 hk => ⟨⟨hG (HeapIs b5 [.slice ia ixs.length ic] ty_sl_api_Index) (by repeat (first | exact List.mem_cons_self | apply List.mem_cons_of_mem)) w1 hk, hG (RowG I4.cells 4 ixs ia ixs.length) (by repeat (first | exact List.mem_cons_self | apply List.mem_cons_of_mem)) w1 hk⟩, hG (HeapIs b9 [.int .i64 (questF cols (xs.getD 0 exD)).1] ty_int) (by repeat (first | exact List.mem_cons_self | apply List.mem_cons_of_mem)) w1 hk⟩) ?_
    repeat refine J.seq ?_
    refine J.reg0 hmx (by kernel_rfl) (by kernel_rfl) ?_
    refine RT.t (ob_fieldAddr fo_api_Table_0 rfl) ?_
    refine RT.t (ob_ld1 sz_string rfl rfl) ?_
    refine RT.t (ob_ldF1 (b := b9) (off := 0) (cs := [.int .i64 (questF cols (xs.getD 0 exD)).1]) (e := ty_int) sz_int rfl (by repeat (first | exact List.mem_cons_self | apply List.mem_cons_of_mem)) rfl) ?_
    refine RT.t (ob_build (cs := [_, _, _, _, _, _, _, _]) sh_api_Read (.cons rfl (.cons rfl .nil)) rfl rfl) ?_
    refine RT.n zc_api_Read ?_
    refine RT.t (ob_assign rfl) ?_
    refine RT.s 4 rfl rfl rfl rfl (cnt_is rfl rfl) ss_api_Read (by simp) ?_
    refine RT.nil ?_
    refine FinS.cons fun b14 => ?_
    refine FinS.nil1 ?_
    repeat (first | refine JX.next ?_ | refine JX.normal_block ?_)
    refine J.sel [6, 8, 10, 11, 12, 14] (.cons rfl (.cons rfl (.cons rfl (.cons rfl (.cons rfl (.cons rfl .nil)))))) ?_
    repeat refine J.seq ?_
    refine J.plain ?_
    refine JO.t (ob_move rfl) rfl ?_
    refine JO.nil ?_
    repeat (first | refine JX.next ?_ | refine JX.normal_block ?_)
    refine J.sel [6, 8, 10, 11, 12, 14, 36] (.cons rfl (.cons rfl (.cons rfl (.cons rfl (.cons rfl (.cons rfl (.cons rfl .nil))))))) ?_
    repeat refine J.seq ?_
    refine J.block ?_
    repeat refine J.seq ?_
    refine J.plain ?_
    refine JO.t (ob_eql rfl rfl) rfl ?_
    refine JO.t (ob_assign rfl) rfl ?_
    refine JO.nil ?_
    repeat (first | refine JX.next ?_ | refine JX.normal_block ?_)
    refine J.sel [6, 8, 10, 11, 12, 14, 36, 53] (.cons rfl (.cons rfl (.cons rfl (.cons rfl (.cons rfl (.cons rfl (.cons rfl (.cons rfl .nil)))))))) ?_
    repeat refine J.seq ?_
    refine J.cond rfl (fun ht53 => ?_) (fun ht53 => ?_)
    ·
      try simp only [decide_eq_true_eq, decide_eq_false_iff_not] at ht53
      repeat refine J.seq ?_
      refine J.plain ?_
      refine JO.t (ob_ldN (cs := [_, _, _, _, _, _, _, _]) sz_api_Read rfl rfl rfl) rfl ?_
      refine JO.m (obm_store rfl rfl (by repeat (first | exact .here | apply Upd.there)) (by first | exact cnt_is rfl rfl | exact cnt_ex) (by first | exact cnt_is rfl rfl | exact cnt_ex | exact cnt_aggO) ss_api_Read) (by rfl) ?_
      refine JO.t (ob_assign rfl) rfl ?_
      refine JO.nil ?_
      repeat (first | refine JX.next ?_ | refine JX.normal_block ?_)
      refine J.sel [6, 7] (.cons rfl (.cons rfl .nil)) ?_
      repeat refine J.seq ?_
      refine J.ret ?_
      repeat (first | refine JX.ret_pass ?_ | refine JX.ret_block ?_)
      exact JX.retC1is rfl rfl sz_api_Read HasOwn.mem rfl rfl (by unfold chooseF chooseQ; rw [if_neg (by rw [ht20]; simp), if_pos ht53] <;> rfl) (by unfold chooseF chooseQ; rw [if_neg (by rw [ht20]; simp), if_pos ht53] <;> rfl)
    ·
      try simp only [decide_eq_true_eq, decide_eq_false_iff_not] at ht53
      repeat refine J.seq ?_
      refine J.plain ?_
      refine JO.t (ob_eql rfl rfl) rfl ?_
      refine JO.t (ob_assign rfl) rfl ?_
      refine JO.nil ?_
      repeat (first | refine JX.next ?_ | refine JX.normal_block ?_)
      refine J.sel [6, 8, 10, 11, 12, 14, 56] (.cons rfl (.cons rfl (.cons rfl (.cons rfl (.cons rfl (.cons rfl (.cons rfl .nil))))))) ?_
      repeat refine J.seq ?_
      refine J.cond rfl (fun ht56 => ?_) (fun ht56 => ?_)
      ·
        try simp only [decide_eq_true_eq, decide_eq_false_iff_not] at ht56
        repeat refine J.seq ?_
        refine J.front b14 (by repeat (first | exact .here | apply Front.there)) ?_
        refine J.reg1 hmx (by kernel_rfl) (by kernel_rfl) ?_
        refine RT.t (ob_ldN (cs := [_, _, _]) sz_api_Value rfl rfl rfl) ?_
        refine RT.t (ob_ldN (cs := [_, _, _]) sz_api_Value rfl rfl rfl) ?_
        refine RT.t (ob_fieldAddr fo_api_Read_2 rfl) ?_
        refine RT.m rfl (obm_storeF (cs' := [_, _, _, _, _, _, _, _]) rfl rfl (by repeat (first | exact .here | apply Upd.there)) rfl rfl rfl rfl ss_api_Value) (by rfl) ?_
        refine RT.t (ob_fieldAddr fo_api_Read_3 rfl) ?_
        refine RT.m rfl (obm_storeF (cs' := [_, _, _, _, _, _, _, _]) rfl rfl (by repeat (first | exact .here | apply Upd.there)) rfl rfl rfl rfl ss_api_Value) (by rfl) ?_
        refine RT.nil ?_
        refine FinS.nil1 ?_
        repeat (first | refine JX.next ?_ | refine JX.normal_block ?_)
        refine J.sel [6, 8, 12, 14] (.cons rfl (.cons rfl (.cons rfl (.cons rfl .nil)))) ?_
        repeat refine J.seq ?_
        refine J.plain ?_
        refine JO.t (ob_move rfl) rfl ?_
        refine JO.t (ob_callG () rfl (fn_find (questF cols (xs.getD 0 exD)).1 ixs hl _ _ fn_hash ia ic b5 b9) (by repeat (first | exact List.mem_cons_self | apply List.mem_cons_of_mem)) rfl) rfl ?_
        refine JO.t (ob_assign rfl) rfl ?_
        refine JO.nil ?_
        repeat (first | refine JX.next ?_ | refine JX.normal_block ?_)
        refine J.sel [6, 8, 12, 13, 14] (.cons rfl (.cons rfl (.cons rfl (.cons rfl (.cons rfl .nil))))) ?_
        repeat refine J.seq ?_
        refine J.plain ?_
        refine JO.t (ob_move rfl) rfl ?_
        refine JO.t (ob_lss rfl rfl) rfl ?_
        refine JO.nil ?_
        repeat (first | refine JX.next ?_ | refine JX.normal_block ?_)
        refine J.sel [6, 8, 12, 13, 14, 65] (.cons rfl (.cons rfl (.cons rfl (.cons rfl (.cons rfl (.cons rfl .nil)))))) ?_
        repeat refine J.seq ?_
        refine J.cond rfl (fun ht65 => ?_) (fun ht65 => ?_)
        ·
          try simp only [decide_eq_true_eq, decide_eq_false_iff_not] at ht65
          repeat refine J.seq ?_
          refine J.plain ?_
          refine JO.t (ob_move rfl) rfl ?_
          refine JO.t (ob_callG () rfl (fn_find (questF cols (xs.getD 0 exD)).1 ixs hl _ _ fn_any ia ic b5 b9) (by repeat (first | exact List.mem_cons_self | apply List.mem_cons_of_mem)) rfl) rfl ?_
          refine JO.t (ob_assign rfl) rfl ?_
          refine JO.nil ?_
          repeat (first | refine JX.next ?_ | refine JX.normal_block ?_)
          refine J.sel [6, 8, 13, 14] (.cons rfl (.cons rfl (.cons rfl (.cons rfl .nil)))) ?_
          repeat refine J.seq ?_
          refine J.plain ?_
          refine JO.t (ob_move rfl) rfl ?_
          refine JO.t (ob_lss rfl rfl) rfl ?_
          refine JO.nil ?_
          repeat (first | refine JX.next ?_ | refine JX.normal_block ?_)
          refine J.sel [6, 8, 13, 14, 69] (.cons rfl (.cons rfl (.cons rfl (.cons rfl (.cons rfl .nil))))) ?_
          repeat refine J.seq ?_
          refine J.cond rfl (fun ht69 => ?_) (fun ht69 => ?_)
          ·
            try simp only [decide_eq_true_eq, decide_eq_false_iff_not] at ht69
            repeat refine J.seq ?_
            refine J.plain ?_
            refine JO.t (ob_ldN (cs := [_, _, _, _, _, _, _, _]) sz_api_Read rfl rfl rfl) rfl ?_
            refine JO.m (obm_store rfl rfl (by repeat (first | exact .here | apply Upd.there)) (by first | exact cnt_is rfl rfl | exact cnt_ex) (by first | exact cnt_is rfl rfl | exact cnt_ex | exact cnt_aggO) ss_api_Read) (by rfl) ?_
            refine JO.t (ob_assign rfl) rfl ?_
            refine JO.nil ?_
            repeat (first | refine JX.next ?_ | refine JX.normal_block ?_)
            refine J.sel [6, 7] (.cons rfl (.cons rfl .nil)) ?_
            repeat refine J.seq ?_
            refine J.ret ?_
            repeat (first | refine JX.ret_pass ?_ | refine JX.ret_block ?_)
            exact JX.retC1is rfl rfl sz_api_Read HasOwn.mem rfl rfl (by unfold chooseF chooseQ finCh; rw [if_neg (by rw [ht20]; simp), if_neg (by rw [ht53]; simp), if_pos ht56, if_pos ht65, if_pos ht69] <;> rfl) (by unfold chooseF chooseQ finCh; rw [if_neg (by rw [ht20]; simp), if_neg (by rw [ht53]; simp), if_pos ht56, if_pos ht65, if_pos ht69] <;> rfl)
          ·
            try simp only [decide_eq_true_eq, decide_eq_false_iff_not] at ht69
            refine J.skip ?_
            repeat (first | refine JX.next ?_ | refine JX.normal_block ?_)
            repeat refine J.seq ?_
            refine J.plain ?_
            refine JO.t (ob_ldN (cs := [_, _, _, _, _, _, _, _]) sz_api_Read rfl rfl rfl) rfl ?_
            refine JO.t (ob_move rfl) rfl ?_
            refine JO.m (obm_store rfl rfl (by repeat (first | exact .here | apply Upd.there)) (by first | exact cnt_is rfl rfl | exact cnt_ex) (by first | exact cnt_is rfl rfl | exact cnt_ex | exact cnt_aggO) ss_api_Read) (by rfl) ?_
            refine JO.t (ob_assign rfl) rfl ?_
            refine JO.nil ?_
            repeat (first | refine JX.next ?_ | refine JX.normal_block ?_)
            refine J.sel [6, 7] (.cons rfl (.cons rfl .nil)) ?_
            repeat refine J.seq ?_
            refine J.ret ?_
            repeat (first | refine JX.ret_pass ?_ | refine JX.ret_block ?_)
            exact JX.retC1is rfl rfl sz_api_Read HasOwn.mem rfl rfl (by unfold chooseF chooseQ finCh; rw [if_neg (by rw [ht20]; simp), if_neg (by rw [ht53]; simp), if_pos ht56, if_pos ht65, if_neg ht69] <;> rfl) (by unfold chooseF chooseQ finCh; rw [if_neg (by rw [ht20]; simp), if_neg (by rw [ht53]; simp), if_pos ht56, if_pos ht65, if_neg ht69] <;> rfl)
        ·
          try simp only [decide_eq_true_eq, decide_eq_false_iff_not] at ht65
          refine J.skip ?_
          repeat (first | refine JX.next ?_ | refine JX.normal_block ?_)
          repeat refine J.seq ?_
          refine J.plain ?_
          refine JO.t (ob_move rfl) rfl ?_
          refine JO.t (ob_lss rfl rfl) rfl ?_
          refine JO.nil ?_
          repeat (first | refine JX.next ?_ | refine JX.normal_block ?_)
          refine J.sel [6, 8, 13, 14, 69] (.cons rfl (.cons rfl (.cons rfl (.cons rfl (.cons rfl .nil))))) ?_
          repeat refine J.seq ?_
          refine J.cond rfl (fun ht69 => ?_) (fun ht69 => ?_)
          ·
            try simp only [decide_eq_true_eq, decide_eq_false_iff_not] at ht69
            repeat refine J.seq ?_
            refine J.plain ?_
            refine JO.t (ob_ldN (cs := [_, _, _, _, _, _, _, _]) sz_api_Read rfl rfl rfl) rfl ?_
            refine JO.m (obm_store rfl rfl (by repeat (first | exact .here | apply Upd.there)) (by first | exact cnt_is rfl rfl | exact cnt_ex) (by first | exact cnt_is rfl rfl | exact cnt_ex | exact cnt_aggO) ss_api_Read) (by rfl) ?_
            refine JO.t (ob_assign rfl) rfl ?_
            refine JO.nil ?_
            repeat (first | refine JX.next ?_ | refine JX.normal_block ?_)
            refine J.sel [6, 7] (.cons rfl (.cons rfl .nil)) ?_
            repeat refine J.seq ?_
            refine J.ret ?_
            repeat (first | refine JX.ret_pass ?_ | refine JX.ret_block ?_)
            exact JX.retC1is rfl rfl sz_api_Read HasOwn.mem rfl rfl (by exact absurd ht69 ht65) (by exact absurd ht69 ht65)
          ·
            try simp only [decide_eq_true_eq, decide_eq_false_iff_not] at ht69
            refine J.skip ?_
            repeat (first | refine JX.next ?_ | refine JX.normal_block ?_)
            repeat refine J.seq ?_
            refine J.plain ?_
            refine JO.t (ob_ldN (cs := [_, _, _, _, _, _, _, _]) sz_api_Read rfl rfl rfl) rfl ?_
            refine JO.t (ob_move rfl) rfl ?_
            refine JO.m (obm_store rfl rfl (by repeat (first | exact .here | apply Upd.there)) (by first | exact cnt_is rfl rfl | exact cnt_ex) (by first | exact cnt_is rfl rfl | exact cnt_ex | exact cnt_aggO) ss_api_Read) (by rfl) ?_
            refine JO.t (ob_assign rfl) rfl ?_
            refine JO.nil ?_
            repeat (first | refine JX.next ?_ | refine JX.normal_block ?_)
            refine J.sel [6, 7] (.cons rfl (.cons rfl .nil)) ?_
            repeat refine J.seq ?_
            refine J.ret ?_
            repeat (first | refine JX.ret_pass ?_ | refine JX.ret_block ?_)
            exact JX.retC1is rfl rfl sz_api_Read HasOwn.mem rfl rfl (by unfold chooseF chooseQ finCh; rw [if_neg (by rw [ht20]; simp), if_neg (by rw [ht53]; simp), if_pos ht56, if_neg ht65, if_neg ht69] <;> rfl) (by unfold chooseF chooseQ finCh; rw [if_neg (by rw [ht20]; simp), if_neg (by rw [ht53]; simp), if_pos ht56, if_neg ht65, if_neg ht69] <;> rfl)
      ·
        try simp only [decide_eq_true_eq, decide_eq_false_iff_not] at ht56
        repeat refine J.seq ?_
        refine J.plain ?_
        refine JO.t (ob_ldN (cs := [_, _, _]) sz_api_Value rfl rfl rfl) rfl ?_
        refine JO.t (ob_fieldAddr fo_api_Read_3 rfl) rfl ?_
        refine JO.m (obm_storeF (cs' := [_, _, _, _, _, _, _, _]) rfl rfl (by repeat (first | exact .here | apply Upd.there)) rfl rfl rfl rfl ss_api_Value) (by rfl) ?_
        refine JO.nil ?_
        repeat (first | refine JX.next ?_ | refine JX.normal_block ?_)
        refine J.sel [6, 8, 10, 11, 12, 14] (.cons rfl (.cons rfl (.cons rfl (.cons rfl (.cons rfl (.cons rfl .nil)))))) ?_
        repeat refine J.seq ?_
        refine J.reg0 hmx (by kernel_rfl) (by kernel_rfl) ?_
        refine RT.t (ob_move rfl) ?_
        refine RT.t (ob_eql rfl rfl) ?_
        refine RT.t (ob_move rfl) ?_
        refine RT.g rfl rfl rfl (fun hg => ob_move (.inl rfl)) ?_
        refine RT.g rfl rfl rfl (fun hg => ob_eql (.inr ⟨_, rfl, fun h => h⟩) (.inl rfl)) ?_
        refine RT.t (ob_pickOr rfl rfl rfl id) ?_
        refine RT.nil ?_
        refine FinS.nil0 ?_
        repeat (first | refine JX.next ?_ | refine JX.normal_block ?_)
        refine J.sel [6, 8, 11, 12, 14, 44] (.cons rfl (.cons rfl (.cons rfl (.cons rfl (.cons rfl (.cons rfl .nil)))))) ?_
        repeat refine J.seq ?_
        refine J.cond rfl (fun ht44 => ?_) (fun ht44 => ?_)
        ·
          try simp only [decide_eq_true_eq, decide_eq_false_iff_not] at ht44
          repeat refine J.seq ?_
          refine J.front b14 (by repeat (first | exact .here | apply Front.there)) ?_
          refine J.reg1 hmx (by kernel_rfl) (by kernel_rfl) ?_
          refine RT.t (ob_ldN (cs := [_, _, _]) sz_api_Value rfl rfl rfl) ?_
          refine RT.t (ob_fieldAddr fo_api_Value_0 rfl) ?_
          refine RT.t (ob_ld1 sz_int rfl rfl) ?_
          refine RT.t (ob_call rfl (hg ht44) (.one rfl .nil)) ?_
          refine RT.t (ob_fieldAddr fo_api_Read_2 rfl) ?_
          refine RT.m rfl (obm_storeF (cs' := [_, _, _, _, _, _, _, _]) rfl rfl (by repeat (first | exact .here | apply Upd.there)) rfl rfl rfl rfl ss_api_Value) (by rfl) ?_
          refine RT.t (ob_fieldAddr fo_api_Read_3 rfl) ?_
          refine RT.m rfl (obm_storeF (cs' := [_, _, _, _, _, _, _, _]) rfl rfl (by repeat (first | exact .here | apply Upd.there)) rfl rfl rfl rfl ss_api_Value) (by rfl) ?_
          refine RT.nil ?_
          refine FinS.nil1 ?_
          repeat (first | refine JX.next ?_ | refine JX.normal_block ?_)
          refine J.sel [6, 8, 12, 14] (.cons rfl (.cons rfl (.cons rfl (.cons rfl .nil)))) ?_
          repeat refine J.seq ?_
          refine J.plain ?_
          refine JO.t (ob_move rfl) rfl ?_
          refine JO.t (ob_callG () rfl (fn_find (questF cols (xs.getD 0 exD)).1 ixs hl _ _ fn_tree ia ic b5 b9) (by repeat (first | exact List.mem_cons_self | apply List.mem_cons_of_mem)) rfl) rfl ?_
          refine JO.t (ob_assign rfl) rfl ?_
          refine JO.nil ?_
          repeat (first | refine JX.next ?_ | refine JX.normal_block ?_)
          refine J.sel [6, 8, 13, 14] (.cons rfl (.cons rfl (.cons rfl (.cons rfl .nil)))) ?_
          repeat refine J.seq ?_
          refine J.plain ?_
          refine JO.t (ob_move rfl) rfl ?_
          refine JO.t (ob_lss rfl rfl) rfl ?_
          refine JO.nil ?_
          repeat (first | refine JX.next ?_ | refine JX.normal_block ?_)
          refine J.sel [6, 8, 13, 14, 69] (.cons rfl (.cons rfl (.cons rfl (.cons rfl (.cons rfl .nil))))) ?_
          repeat refine J.seq ?_
          refine J.cond rfl (fun ht69 => ?_) (fun ht69 => ?_)
          ·
            try simp only [decide_eq_true_eq, decide_eq_false_iff_not] at ht69
            repeat refine J.seq ?_
            refine J.plain ?_
            refine JO.t (ob_ldN (cs := [_, _, _, _, _, _, _, _]) sz_api_Read rfl rfl rfl) rfl ?_
            refine JO.m (obm_store rfl rfl (by repeat (first | exact .here | apply Upd.there)) (by first | exact cnt_is rfl rfl | exact cnt_ex) (by first | exact cnt_is rfl rfl | exact cnt_ex | exact cnt_aggO) ss_api_Read) (by rfl) ?_
            refine JO.t (ob_assign rfl) rfl ?_
            refine JO.nil ?_
            repeat (first | refine JX.next ?_ | refine JX.normal_block ?_)
            refine J.sel [6, 7] (.cons rfl (.cons rfl .nil)) ?_
            repeat refine J.seq ?_
            refine J.ret ?_
            repeat (first | refine JX.ret_pass ?_ | refine JX.ret_block ?_)
            exact JX.retC1is rfl rfl sz_api_Read HasOwn.mem rfl rfl (by unfold chooseF chooseQ finCh; rw [if_neg (by rw [ht20]; simp), if_neg (by rw [ht53]; simp), if_neg (by rw [ht56]; simp), if_pos ht44, if_pos ht69] <;> rfl) (by unfold chooseF chooseQ finCh; rw [if_neg (by rw [ht20]; simp), if_neg (by rw [ht53]; simp), if_neg (by rw [ht56]; simp), if_pos ht44, if_pos ht69] <;> rfl)
          ·
            try simp only [decide_eq_true_eq, decide_eq_false_iff_not] at ht69
            refine J.skip ?_
            repeat (first | refine JX.next ?_ | refine JX.normal_block ?_)
            repeat refine J.seq ?_
            refine J.plain ?_
            refine JO.t (ob_ldN (cs := [_, _, _, _, _, _, _, _]) sz_api_Read rfl rfl rfl) rfl ?_
            refine JO.t (ob_move rfl) rfl ?_
            refine JO.m (obm_store rfl rfl (by repeat (first | exact .here | apply Upd.there)) (by first | exact cnt_is rfl rfl | exact cnt_ex) (by first | exact cnt_is rfl rfl | exact cnt_ex | exact cnt_aggO) ss_api_Read) (by rfl) ?_
            refine JO.t (ob_assign rfl) rfl ?_
            refine JO.nil ?_
            repeat (first | refine JX.next ?_ | refine JX.normal_block ?_)
            refine J.sel [6, 7] (.cons rfl (.cons rfl .nil)) ?_
            repeat refine J.seq ?_
            refine J.ret ?_
            repeat (first | refine JX.ret_pass ?_ | refine JX.ret_block ?_)
            exact JX.retC1is rfl rfl sz_api_Read HasOwn.mem rfl rfl (by unfold chooseF chooseQ finCh; rw [if_neg (by rw [ht20]; simp), if_neg (by rw [ht53]; simp), if_neg (by rw [ht56]; simp), if_pos ht44, if_neg ht69] <;> rfl) (by unfold chooseF chooseQ finCh; rw [if_neg (by rw [ht20]; simp), if_neg (by rw [ht53]; simp), if_neg (by rw [ht56]; simp), if_pos ht44, if_neg ht69] <;> rfl)
        ·
          try simp only [decide_eq_true_eq, decide_eq_false_iff_not] at ht44
          refine J.skip ?_
          repeat (first | refine JX.next ?_ | refine JX.normal_block ?_)
          repeat refine J.seq ?_
          refine J.plain ?_
          refine JO.t (ob_move rfl) rfl ?_
          refine JO.t (ob_callG () rfl (fn_find (questF cols (xs.getD 0 exD)).1 ixs hl _ _ fn_tree ia ic b5 b9) (by repeat (first | exact List.mem_cons_self | apply List.mem_cons_of_mem)) rfl) rfl ?_
          refine JO.t (ob_assign rfl) rfl ?_
          refine JO.nil ?_
          repeat (first | refine JX.next ?_ | refine JX.normal_block ?_)
          refine J.sel [6, 8, 13, 14] (.cons rfl (.cons rfl (.cons rfl (.cons rfl .nil)))) ?_
          repeat refine J.seq ?_
          refine J.plain ?_
          refine JO.t (ob_move rfl) rfl ?_
          refine JO.t (ob_lss rfl rfl) rfl ?_
          refine JO.nil ?_
          repeat (first | refine JX.next ?_ | refine JX.normal_block ?_)
          refine J.sel [6, 8, 13, 14, 69] (.cons rfl (.cons rfl (.cons rfl (.cons rfl (.cons rfl .nil))))) ?_
          repeat refine J.seq ?_
          refine J.cond rfl (fun ht69 => ?_) (fun ht69 => ?_)
          ·
            try simp only [decide_eq_true_eq, decide_eq_false_iff_not] at ht69
            repeat refine J.seq ?_
            refine J.plain ?_
            refine JO.t (ob_ldN (cs := [_, _, _, _, _, _, _, _]) sz_api_Read rfl rfl rfl) rfl ?_
            refine JO.m (obm_store rfl rfl (by repeat (first | exact .here | apply Upd.there)) (by first | exact cnt_is rfl rfl | exact cnt_ex) (by first | exact cnt_is rfl rfl | exact cnt_ex | exact cnt_aggO) ss_api_Read) (by rfl) ?_
            refine JO.t (ob_assign rfl) rfl ?_
            refine JO.nil ?_
            repeat (first | refine JX.next ?_ | refine JX.normal_block ?_)
            refine J.sel [6, 7] (.cons rfl (.cons rfl .nil)) ?_
            repeat refine J.seq ?_
            refine J.ret ?_
            repeat (first | refine JX.ret_pass ?_ | refine JX.ret_block ?_)
            exact JX.retC1is rfl rfl sz_api_Read HasOwn.mem rfl rfl (by unfold chooseF chooseQ finCh; rw [if_neg (by rw [ht20]; simp), if_neg (by rw [ht53]; simp), if_neg (by rw [ht56]; simp), if_neg (by rw [ht44]; simp), if_pos ht69] <;> rfl) (by unfold chooseF chooseQ finCh; rw [if_neg (by rw [ht20]; simp), if_neg (by rw [ht53]; simp), if_neg (by rw [ht56]; simp), if_neg (by rw [ht44]; simp), if_pos ht69] <;> rfl)
          ·
            try simp only [decide_eq_true_eq, decide_eq_false_iff_not] at ht69
            refine J.skip ?_
            repeat (first | refine JX.next ?_ | refine JX.normal_block ?_)
            repeat refine J.seq ?_
            refine J.plain ?_
            refine JO.t (ob_ldN (cs := [_, _, _, _, _, _, _, _]) sz_api_Read rfl rfl rfl) rfl ?_
            refine JO.t (ob_move rfl) rfl ?_
            refine JO.m (obm_store rfl rfl (by repeat (first | exact .here | apply Upd.there)) (by first | exact cnt_is rfl rfl | exact cnt_ex) (by first | exact cnt_is rfl rfl | exact cnt_ex | exact cnt_aggO) ss_api_Read) (by rfl) ?_
            refine JO.t (ob_assign rfl) rfl ?_
            refine JO.nil ?_
            repeat (first | refine JX.next ?_ | refine JX.normal_block ?_)
            refine J.sel [6, 7] (.cons rfl (.cons rfl .nil)) ?_
            repeat refine J.seq ?_
            refine J.ret ?_
            repeat (first | refine JX.ret_pass ?_ | refine JX.ret_block ?_)
            exact JX.retC1is rfl rfl sz_api_Read HasOwn.mem rfl rfl (by unfold chooseF chooseQ finCh; rw [if_neg (by rw [ht20]; simp), if_neg (by rw [ht53]; simp), if_neg (by rw [ht56]; simp), if_neg (by rw [ht44]; simp), if_neg ht69] <;> rfl) (by unfold chooseF chooseQ finCh; rw [if_neg (by rw [ht20]; simp), if_neg (by rw [ht53]; simp), if_neg (by rw [ht56]; simp), if_neg (by rw [ht44]; simp), if_neg ht69] <;> rfl)
end Go.Proofs.Ytjlojkchgfeenaa
