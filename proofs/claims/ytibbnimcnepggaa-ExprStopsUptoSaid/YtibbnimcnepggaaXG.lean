/- The statements on expressions: what their functions do. No condition. -/
import Derived.Test.YtibbnimcnepggaaXF
import Derived.Test.YtibbnimcnepggaaXVc16
set_option maxRecDepth 20000
namespace Go.Proofs.Ytibbnimcnepggaa
open Go Go.Vc
theorem find_num (vals : List V3) (n e : Int) : findF vals (numE n) e = (⟨1, n, ⟨#[]⟩⟩, e) := by
  rw [findF]
  simp [kidsF, leafF, okV, okF, seq]
theorem find_numF (vals : List V3) (n : Int) : findF vals (numE n) = fun e => (⟨1, n, ⟨#[]⟩⟩, e) := funext fun e => find_num vals n e
theorem find_two (vals : List V3) (k e : Int) (x y : Ex) (hk : (kidsF k == 2) = true) : findF vals (nodeE k [x, y]) e = twoF k (findF vals x e) (findF vals y) := by
  rw [findF]
  simp at hk
  simp [hk]
theorem find_one (vals : List V3) (k e : Int) (x : Ex) (hk : (kidsF k == 1) = true) : findF vals (nodeE k [x]) e = oneF k (findF vals x e) := by
  rw [findF]
  simp at hk
  simp [hk]
theorem awake_true : ((evalF [] (nodeE 8 [numE 7, numE (-2)])).snd == 0 && (evalF [] (nodeE 8 [numE 7, numE (-2)])).fst.n == -3 && (evalF [] (nodeE 8 [numE 1, numE 0])).snd == 36 && (holdsF (evalF [] (nodeE 12 [numE 1, numE 2]))).fst && (holdsF (evalF [] (nodeE 12 [numE 1, numE 2]))).snd == 0) = true := by
  unfold evalF
  simp only [find_two _ 8 _ _ _ (by decide), find_two _ 12 _ _ _ (by decide), find_numF]
  simp [twoF, two2F, numberF, finF, failF, zero3, opsF, vcmpF, orL, cmpF, scmpF, slt, seq, truthF, truthN, holdsF, w64]
mutual
theorem refOK : ∀ x : Ex, exRng x → RefOK x
  | .mk k vk vn vs tb nm sl kids, hx => fun vals hv => by
    rw [exRng] at hx
    exact c_ref12_EvalM vals k vk vn vs tb nm sl kids hv hx.2.2.2.2 (refOKs kids hx.2.2.2.2)
theorem refOKs : ∀ kids : List Ex, exsRng kids → ∀ x ∈ kids, RefOK x
  | [], _, x, h => by cases h
  | y :: ys, hx, x, h => by
    rw [exsRng] at hx
    rcases List.mem_cons.1 h with e | h
    · rw [e]; exact refOK y hx.1
    · exact refOKs ys hx.2 x h
end
theorem c_ref12_Eval (vals : List V3) (x : Ex) (hx : exRng x) (hv : ∀ v ∈ vals, v.rng) : CallTy Try.prog f_ref12_Eval [.rep (ExR x), .rep (RowS vals)] (.tup2 (.is (vv (refF vals x).1)) (.is (.int .i64 (refF vals x).2))) := refOK x hx vals hv
def sameF (vals : List V3) (x y : Ex) : Bool := ((((evalF vals x).2 != 0) || ((evalF vals y).2 != 0)) || veqV (evalF vals x).1 (evalF vals y).1)
def evalsF (vals : List V3) (x : Ex) : Bool :=
  ((((veqV (evalF vals x).1 (refF vals x).1) && ((evalF vals x).2 == (refF vals x).2)) && ((holdsF (evalF vals x)).1 == (refHoldsF (refF vals x)).1)) && ((holdsF (evalF vals x)).2 == (refHoldsF (refF vals x)).2))
theorem c_ref12_Holds (vals : List V3) (x : Ex) (hx : exRng x) (hv : ∀ v ∈ vals, v.rng) : CallTy Try.prog f_ref12_Holds [.rep (ExR x), .rep (RowS vals)] (.tup2 (.is (.bool (refHoldsF (refF vals x)).1)) (.is (.int .i64 (refHoldsF (refF vals x)).2))) :=
  CallTy.of (fn := Try.f24) Try.func24 (n := 28) rfl rfl rfl (fun _ _ => by kernel_rfl) fun E W => by
  repeat refine J.seq ?_
  refine J.plain ?_
  refine JO.box rfl rfl fun b2 => ?_
  refine JO.t (ob_assign rfl) rfl ?_
  refine JO.t (ob_assign rfl) rfl ?_
  refine JO.nil ?_
  repeat (first | refine JX.next ?_ | refine JX.normal_block ?_)
  refine J.sel [1, 2] (.cons rfl (.cons rfl .nil)) ?_
  repeat refine J.seq ?_
  refine J.plain ?_
  refine JO.t (ob_ldEx sz_api_Expr rfl) rfl ?_
  refine JO.t (ob_move rfl) rfl ?_
  refine JO.t (ob_call rfl (c_ref12_Eval vals x hx hv) (.one rfl (.one rfl .nil))) rfl ?_
  refine JO.t (ob_move rfl) rfl ?_
  refine JO.t (ob_extract0 rfl) rfl ?_
  refine JO.t (ob_extract1 rfl) rfl ?_
  refine JO.alloc zo_api_Value rfl fun b6 => ?_
  refine JO.m (obm_store rfl rfl (by repeat (first | exact .here | apply Upd.there)) (by exact cnt_is rfl rfl) (by first | exact cnt_is rfl rfl | exact cnt_ex) ss_api_Value) (by rfl) ?_
  refine JO.t (ob_assign rfl) rfl ?_
  refine JO.nil ?_
  repeat (first | refine JX.next ?_ | refine JX.normal_block ?_)
  refine J.sel [6, 7] (.cons rfl (.cons rfl .nil)) ?_
  repeat refine J.seq ?_
  refine J.plain ?_
  refine JO.t (ob_move rfl) rfl ?_
  refine JO.t (ob_neq rfl rfl) rfl ?_
  refine JO.nil ?_
  repeat (first | refine JX.next ?_ | refine JX.normal_block ?_)
  refine J.sel [6, 7, 15] (.cons rfl (.cons rfl (.cons rfl .nil))) ?_
  repeat refine J.seq ?_
  refine J.cond rfl (fun ht15 => ?_) (fun ht15 => ?_)
  ·
    try simp only [decide_eq_true_eq, decide_eq_false_iff_not] at ht15
    repeat refine J.seq ?_
    refine J.plain ?_
    refine JO.t (ob_move rfl) rfl ?_
    refine JO.t (ob_assign rfl) rfl ?_
    refine JO.t (ob_assign rfl) rfl ?_
    refine JO.nil ?_
    repeat (first | refine JX.next ?_ | refine JX.normal_block ?_)
    refine J.sel [4, 5] (.cons rfl (.cons rfl .nil)) ?_
    repeat refine J.seq ?_
    refine J.ret ?_
    repeat (first | refine JX.ret_pass ?_ | refine JX.ret_block ?_)
    exact JX.ret2is rfl rfl rfl (by first | (simp +decide only [refHoldsF, *, ↓reduceIte] <;> rfl) | (simp_all [refHoldsF]; done) | (simp only [refHoldsF, veqV, truthF, *, ↓reduceIte, Bool.false_eq_true]; done) | (simp_all [refHoldsF, veqV, truthF]; done) | (simp [refHoldsF, veqV, truthF, *]; done)) (by first | (simp +decide only [refHoldsF, *, ↓reduceIte] <;> rfl) | (simp_all [refHoldsF]; done) | (simp only [refHoldsF, veqV, truthF, *, ↓reduceIte, Bool.false_eq_true]; done) | (simp_all [refHoldsF, veqV, truthF]; done) | (simp [refHoldsF, veqV, truthF, *]; done))
  ·
    try simp only [decide_eq_true_eq, decide_eq_false_iff_not] at ht15
    refine J.skip ?_
    repeat (first | refine JX.next ?_ | refine JX.normal_block ?_)
    repeat refine J.seq ?_
    refine J.reg0 hmx (by kernel_rfl) (by kernel_rfl) ?_
    refine RT.t (ob_fieldAddr fo_api_Value_0 rfl) ?_
    refine RT.t (ob_ld1 sz_int rfl rfl) ?_
    refine RT.t (ob_neq rfl rfl) ?_
    refine RT.t (ob_move rfl) ?_
    refine RT.g rfl rfl rfl (fun hg => ob_fieldAddr fo_api_Value_0 (.inl rfl)) ?_
    refine RT.g rfl rfl rfl (fun hg => ob_ld1 sz_int (.inr ⟨_, rfl, fun h => h⟩) rfl) ?_
    refine RT.g rfl rfl rfl (fun hg => ob_neq (.inr ⟨_, rfl, fun h => h⟩) (.inl rfl)) ?_
    refine RT.t (ob_pickAnd rfl rfl rfl id) ?_
    refine RT.nil ?_
    refine FinS.nil0 ?_
    repeat (first | refine JX.next ?_ | refine JX.normal_block ?_)
    refine J.sel [6, 24] (.cons rfl (.cons rfl .nil)) ?_
    repeat refine J.seq ?_
    refine J.cond rfl (fun ht24 => ?_) (fun ht24 => ?_)
    ·
      try simp only [decide_eq_true_eq, decide_eq_false_iff_not] at ht24
      repeat refine J.seq ?_
      refine J.plain ?_
      refine JO.t (ob_assign rfl) rfl ?_
      refine JO.t (ob_assign rfl) rfl ?_
      refine JO.nil ?_
      repeat (first | refine JX.next ?_ | refine JX.normal_block ?_)
      refine J.sel [4, 5] (.cons rfl (.cons rfl .nil)) ?_
      repeat refine J.seq ?_
      refine J.ret ?_
      repeat (first | refine JX.ret_pass ?_ | refine JX.ret_block ?_)
      exact JX.ret2is rfl rfl rfl (by first | (simp +decide only [refHoldsF, *, ↓reduceIte] <;> rfl) | (simp_all [refHoldsF]; done) | (simp only [refHoldsF, veqV, truthF, *, ↓reduceIte, Bool.false_eq_true]; done) | (simp_all [refHoldsF, veqV, truthF]; done) | (simp [refHoldsF, veqV, truthF, *]; done)) (by first | (simp +decide only [refHoldsF, *, ↓reduceIte] <;> rfl) | (simp_all [refHoldsF]; done) | (simp only [refHoldsF, veqV, truthF, *, ↓reduceIte, Bool.false_eq_true]; done) | (simp_all [refHoldsF, veqV, truthF]; done) | (simp [refHoldsF, veqV, truthF, *]; done))
    ·
      try simp only [decide_eq_true_eq, decide_eq_false_iff_not] at ht24
      refine J.skip ?_
      repeat (first | refine JX.next ?_ | refine JX.normal_block ?_)
      repeat refine J.seq ?_
      refine J.reg0 hmx (by kernel_rfl) (by kernel_rfl) ?_
      refine RT.t (ob_ldN (cs := [_, _, _]) sz_api_Value rfl rfl rfl) ?_
      refine RT.t (ob_call rfl (c_ref12_Truth _) (.one rfl .nil)) ?_
      refine RT.t (ob_veq veq_api_Value rfl rfl) ?_
      refine RT.t (ob_assign rfl) ?_
      refine RT.t (ob_assign rfl) ?_
      refine RT.nil ?_
      refine FinS.nil0 ?_
      repeat (first | refine JX.next ?_ | refine JX.normal_block ?_)
      refine J.sel [4, 5] (.cons rfl (.cons rfl .nil)) ?_
      repeat refine J.seq ?_
      refine J.ret ?_
      repeat (first | refine JX.ret_pass ?_ | refine JX.ret_block ?_)
      exact JX.ret2is rfl rfl rfl (by first | (simp +decide only [refHoldsF, *, ↓reduceIte] <;> rfl) | (simp_all [refHoldsF]; done) | (simp only [refHoldsF, veqV, truthF, *, ↓reduceIte, Bool.false_eq_true]; done) | (simp_all [refHoldsF, veqV, truthF]; done) | (simp [refHoldsF, veqV, truthF, *]; done)) (by first | (simp +decide only [refHoldsF, *, ↓reduceIte] <;> rfl) | (simp_all [refHoldsF]; done) | (simp only [refHoldsF, veqV, truthF, *, ↓reduceIte, Bool.false_eq_true]; done) | (simp_all [refHoldsF, veqV, truthF]; done) | (simp [refHoldsF, veqV, truthF, *]; done))
theorem c_law12_num (n : Int) : CallTy Try.prog f_law12_num [.is (.int .i64 n)] (.rep (ExR (numE n))) :=
  CallTy.of (fn := Try.f26) Try.func26 (n := 6) rfl rfl rfl (fun _ _ => by kernel_rfl) fun E W => by
  repeat refine J.seq ?_
  refine J.plain ?_
  refine JO.alloc zo_api_Expr rfl fun b2 => ?_
  refine JO.nil ?_
  repeat (first | refine JX.next ?_ | refine JX.normal_block ?_)
  refine J.sel [0, 2] (.cons rfl (.cons rfl .nil)) ?_
  repeat refine J.seq ?_
  refine J.plain ?_
  refine JO.t (ob_move rfl) rfl ?_
  refine JO.t (ob_build (cs := [_, _, _]) sh_api_Value (.cons rfl (.cons rfl .nil)) rfl rfl) rfl ?_
  refine JO.t (ob_build (cs := [_, _, _, _, _, _, _, _]) sh_api_Expr (.cons rfl (.cons rfl .nil)) rfl rfl) rfl ?_
  refine JO.m (obm_store rfl rfl (by repeat (first | exact .here | apply Upd.there)) (by exact cnt_is rfl rfl) (by first | exact cnt_is rfl rfl | exact cnt_ex) ss_api_Expr) (by rfl) ?_
  refine JO.nil ?_
  repeat (first | refine JX.next ?_ | refine JX.normal_block ?_)
  refine J.sel [2] (.cons rfl .nil) ?_
  repeat refine J.seq ?_
  refine J.ret ?_
  repeat (first | refine JX.ret_pass ?_ | refine JX.ret_block ?_)
  exact JX.retCsub rfl rfl sz_api_Expr HasOwn.mem rfl rfl Sub.exNil
theorem c_law12_node (k : Int) (kids : List Ex) : CallTy Try.prog f_law12_node [.is (.int .i64 k), .rep (ExsR kids)] (.rep (ExR (nodeE k kids))) :=
  CallTy.of (fn := Try.f25) Try.func25 (n := 8) rfl rfl rfl (fun _ _ => by kernel_rfl) fun E W => by
  refine J.openExs (s := 1) rfl (fun a len cap b o hlen ha => ?_)
  repeat refine J.seq ?_
  refine J.plain ?_
  refine JO.alloc zo_api_Expr rfl fun b4 => ?_
  refine JO.nil ?_
  repeat (first | refine JX.next ?_ | refine JX.normal_block ?_)
  refine J.sel [0, 1, 4] (.cons rfl (.cons rfl (.cons rfl .nil))) ?_
  repeat refine J.seq ?_
  refine J.plain ?_
  refine JO.t (ob_move rfl) rfl ?_
  refine JO.t (ob_move rfl) rfl ?_
  refine JO.t (ob_build (cs := [_, _, _, _, _, _, _, _]) sh_api_Expr (.cons rfl (.cons rfl .nil)) rfl rfl) rfl ?_
  refine JO.m (obm_store rfl rfl (by repeat (first | exact .here | apply Upd.there)) (by exact cnt_is rfl rfl) (by first | exact cnt_is rfl rfl | exact cnt_ex) ss_api_Expr) (by rfl) ?_
  refine JO.nil ?_
  repeat (first | refine JX.next ?_ | refine JX.normal_block ?_)
  refine J.sel [4] (.cons rfl .nil) ?_
  repeat refine J.seq ?_
  refine J.ret ?_
  repeat (first | refine JX.ret_pass ?_ | refine JX.ret_block ?_)
  exact JX.retCsub rfl rfl sz_api_Expr HasOwn.mem rfl rfl (Sub.exMk (by simp))
theorem c_law12_same (vals : List V3) (x y : Ex) : CallTy Try.prog f_law12_same [.rep (ExR x), .rep (ExR y), .rep (RowS vals)] (.is (.bool (sameF vals x y))) :=
  CallTy.of (fn := Try.f27) Try.func27 (n := 34) rfl rfl rfl (fun _ _ => by kernel_rfl) fun E W => by
  repeat refine J.seq ?_
  refine J.plain ?_
  refine JO.box rfl rfl fun b3 => ?_
  refine JO.box rfl rfl fun b4 => ?_
  refine JO.t (ob_assign rfl) rfl ?_
  refine JO.nil ?_
  repeat (first | refine JX.next ?_ | refine JX.normal_block ?_)
  refine J.sel [2, 3, 4] (.cons rfl (.cons rfl (.cons rfl .nil))) ?_
  repeat refine J.seq ?_
  refine J.plain ?_
  refine JO.t (ob_ldEx sz_api_Expr rfl) rfl ?_
  refine JO.t (ob_move rfl) rfl ?_
  refine JO.t (ob_call rfl (c_expr_Eval _ _) (.one rfl (.one rfl .nil))) rfl ?_
  refine JO.t (ob_move rfl) rfl ?_
  refine JO.t (ob_extract0 rfl) rfl ?_
  refine JO.t (ob_extract1 rfl) rfl ?_
  refine JO.alloc zo_api_Value rfl fun b7 => ?_
  refine JO.m (obm_store rfl rfl (by repeat (first | exact .here | apply Upd.there)) (by exact cnt_is rfl rfl) (by first | exact cnt_is rfl rfl | exact cnt_ex) ss_api_Value) (by rfl) ?_
  refine JO.t (ob_assign rfl) rfl ?_
  refine JO.nil ?_
  repeat (first | refine JX.next ?_ | refine JX.normal_block ?_)
  refine J.sel [2, 4, 7, 8] (.cons rfl (.cons rfl (.cons rfl (.cons rfl .nil)))) ?_
  repeat refine J.seq ?_
  refine J.plain ?_
  refine JO.t (ob_ldEx sz_api_Expr rfl) rfl ?_
  refine JO.t (ob_move rfl) rfl ?_
  refine JO.t (ob_call rfl (c_expr_Eval _ _) (.one rfl (.one rfl .nil))) rfl ?_
  refine JO.t (ob_move rfl) rfl ?_
  refine JO.t (ob_extract0 rfl) rfl ?_
  refine JO.t (ob_extract1 rfl) rfl ?_
  refine JO.alloc zo_api_Value rfl fun b9 => ?_
  refine JO.m (obm_store rfl rfl (by repeat (first | exact .here | apply Upd.there)) (by exact cnt_is rfl rfl) (by first | exact cnt_is rfl rfl | exact cnt_ex) ss_api_Value) (by rfl) ?_
  refine JO.t (ob_assign rfl) rfl ?_
  refine JO.nil ?_
  repeat (first | refine JX.next ?_ | refine JX.normal_block ?_)
  refine J.sel [7, 8, 9, 10] (.cons rfl (.cons rfl (.cons rfl (.cons rfl .nil)))) ?_
  repeat refine J.seq ?_
  refine J.reg0 hmx (by kernel_rfl) (by kernel_rfl) ?_
  refine RT.t (ob_move rfl) ?_
  refine RT.t (ob_neq rfl rfl) ?_
  refine RT.t (ob_move rfl) ?_
  refine RT.g rfl rfl rfl (fun hg => ob_move (.inl rfl)) ?_
  refine RT.g rfl rfl rfl (fun hg => ob_neq (.inr ⟨_, rfl, fun h => h⟩) (.inl rfl)) ?_
  refine RT.t (ob_pickOr rfl rfl rfl id) ?_
  refine RT.t (ob_move rfl) ?_
  refine RT.g rfl rfl rfl (fun hg => ob_ldN (cs := [_, _, _]) sz_api_Value (.inl rfl) rfl rfl) ?_
  refine RT.g rfl rfl rfl (fun hg => ob_ldN (cs := [_, _, _]) sz_api_Value (.inl rfl) rfl rfl) ?_
  refine RT.g rfl rfl rfl (fun hg => ob_veq veq_api_Value (.inr ⟨_, rfl, fun h => h⟩) (.inr ⟨_, rfl, fun h => h⟩)) ?_
  refine RT.t (ob_pickOr rfl rfl rfl id) ?_
  refine RT.t (ob_assign rfl) ?_
  refine RT.nil ?_
  refine FinS.nil0 ?_
  repeat (first | refine JX.next ?_ | refine JX.normal_block ?_)
  refine J.sel [6] (.cons rfl .nil) ?_
  repeat refine J.seq ?_
  refine J.ret ?_
  repeat (first | refine JX.ret_pass ?_ | refine JX.ret_block ?_)
  exact JX.ret1is rfl rfl (by first | (simp +decide only [sameF, *, ↓reduceIte] <;> rfl) | (simp_all [sameF]; done) | (simp only [sameF, veqV, *, ↓reduceIte, Bool.false_eq_true]; done) | (simp_all [sameF, veqV]; done) | (simp [sameF, veqV, *]; done))
theorem c_law12_awake  : CallTy Try.prog f_law12_awake [] (.is (.bool true)) :=
  CallTy.of (fn := Try.f20) Try.func20 (n := 49) rfl rfl rfl (fun _ _ => by kernel_rfl) fun E W => by
  repeat refine J.seq ?_
  refine J.plain ?_
  refine JO.t (ob_assign rfl) rfl ?_
  refine JO.nil ?_
  repeat (first | refine JX.next ?_ | refine JX.normal_block ?_)
  refine J.sel [] .nil ?_
  repeat refine J.seq ?_
  refine J.plain ?_
  refine JO.t (ob_call rfl (c_law12_num _) (.one rfl .nil)) rfl ?_
  refine JO.t (ob_call rfl (c_law12_num _) (.one rfl .nil)) rfl ?_
  refine JO.t (ob_buildEx2 sl_sl_api_Expr rfl rfl) rfl ?_
  refine JO.t (ob_call rfl (c_law12_node _ _) (.one rfl (.one rfl .nil))) rfl ?_
  refine JO.t (ob_call rfl (c_expr_Eval _ _) (.one rfl (.sub rfl (Sub.rowNil) .nil))) rfl ?_
  refine JO.t (ob_move rfl) rfl ?_
  refine JO.t (ob_extract0 rfl) rfl ?_
  refine JO.t (ob_extract1 rfl) rfl ?_
  refine JO.alloc zo_api_Value rfl fun b1 => ?_
  refine JO.m (obm_store rfl rfl (by repeat (first | exact .here | apply Upd.there)) (by exact cnt_is rfl rfl) (by first | exact cnt_is rfl rfl | exact cnt_ex) ss_api_Value) (by rfl) ?_
  refine JO.t (ob_assign rfl) rfl ?_
  refine JO.nil ?_
  repeat (first | refine JX.next ?_ | refine JX.normal_block ?_)
  refine J.sel [1, 2] (.cons rfl (.cons rfl .nil)) ?_
  repeat refine J.seq ?_
  refine J.plain ?_
  refine JO.t (ob_call rfl (c_law12_num _) (.one rfl .nil)) rfl ?_
  refine JO.t (ob_call rfl (c_law12_num _) (.one rfl .nil)) rfl ?_
  refine JO.t (ob_buildEx2 sl_sl_api_Expr rfl rfl) rfl ?_
  refine JO.t (ob_call rfl (c_law12_node _ _) (.one rfl (.one rfl .nil))) rfl ?_
  refine JO.t (ob_call rfl (c_expr_Eval _ _) (.one rfl (.sub rfl (Sub.rowNil) .nil))) rfl ?_
  refine JO.t (ob_move rfl) rfl ?_
  refine JO.t (ob_extract0 rfl) rfl ?_
  refine JO.t (ob_extract1 rfl) rfl ?_
  refine JO.alloc zo_api_Value rfl fun b3 => ?_
  refine JO.m (obm_store rfl rfl (by repeat (first | exact .here | apply Upd.there)) (by exact cnt_is rfl rfl) (by first | exact cnt_is rfl rfl | exact cnt_ex) ss_api_Value) (by rfl) ?_
  refine JO.t (ob_assign rfl) rfl ?_
  refine JO.nil ?_
  repeat (first | refine JX.next ?_ | refine JX.normal_block ?_)
  refine J.sel [1, 2, 4] (.cons rfl (.cons rfl (.cons rfl .nil))) ?_
  repeat refine J.seq ?_
  refine J.plain ?_
  refine JO.t (ob_call rfl (c_law12_num _) (.one rfl .nil)) rfl ?_
  refine JO.t (ob_call rfl (c_law12_num _) (.one rfl .nil)) rfl ?_
  refine JO.t (ob_buildEx2 sl_sl_api_Expr rfl rfl) rfl ?_
  refine JO.t (ob_call rfl (c_law12_node _ _) (.one rfl (.one rfl .nil))) rfl ?_
  refine JO.t (ob_call rfl (c_expr_Holds _ _) (.one rfl (.sub rfl (Sub.rowNil) .nil))) rfl ?_
  refine JO.t (ob_move rfl) rfl ?_
  refine JO.t (ob_extract0 rfl) rfl ?_
  refine JO.t (ob_extract1 rfl) rfl ?_
  refine JO.t (ob_assign rfl) rfl ?_
  refine JO.t (ob_assign rfl) rfl ?_
  refine JO.nil ?_
  repeat (first | refine JX.next ?_ | refine JX.normal_block ?_)
  refine J.sel [1, 2, 4, 5, 6] (.cons rfl (.cons rfl (.cons rfl (.cons rfl (.cons rfl .nil))))) ?_
  repeat refine J.seq ?_
  refine J.reg0 hmx (by kernel_rfl) (by kernel_rfl) ?_
  refine RT.t (ob_move rfl) ?_
  refine RT.t (ob_eql rfl rfl) ?_
  refine RT.t (ob_move rfl) ?_
  refine RT.g rfl rfl rfl (fun hg => ob_fieldAddr fo_api_Value_1 (.inl rfl)) ?_
  refine RT.g rfl rfl rfl (fun hg => ob_ld1 sz_int64 (.inr ⟨_, rfl, fun h => h⟩) rfl) ?_
  refine RT.g rfl rfl rfl (fun hg => ob_eql (.inr ⟨_, rfl, fun h => h⟩) (.inl rfl)) ?_
  refine RT.t (ob_pickAnd rfl rfl rfl id) ?_
  refine RT.t (ob_move rfl) ?_
  refine RT.g rfl rfl rfl (fun hg => ob_move (.inl rfl)) ?_
  refine RT.g rfl rfl rfl (fun hg => ob_eql (.inr ⟨_, rfl, fun h => h⟩) (.inl rfl)) ?_
  refine RT.t (ob_pickAnd rfl rfl rfl id) ?_
  refine RT.t (ob_move rfl) ?_
  refine RT.g rfl rfl rfl (fun hg => ob_move (.inl rfl)) ?_
  refine RT.t (ob_pickAnd rfl rfl rfl id) ?_
  refine RT.t (ob_move rfl) ?_
  refine RT.g rfl rfl rfl (fun hg => ob_move (.inl rfl)) ?_
  refine RT.g rfl rfl rfl (fun hg => ob_eql (.inr ⟨_, rfl, fun h => h⟩) (.inl rfl)) ?_
  refine RT.t (ob_pickAnd rfl rfl rfl id) ?_
  refine RT.t (ob_assign rfl) ?_
  refine RT.nil ?_
  refine FinS.nil0 ?_
  repeat (first | refine JX.next ?_ | refine JX.normal_block ?_)
  refine J.sel [0] (.cons rfl .nil) ?_
  repeat refine J.seq ?_
  refine J.ret ?_
  repeat (first | refine JX.ret_pass ?_ | refine JX.ret_block ?_)
  exact JX.ret1is rfl rfl (congrArg Value.bool awake_true)
theorem c_law12_ExprEvals (vals : List V3) (x : Ex) (hx : exRng x) (hv : ∀ v ∈ vals, v.rng) : CallTy Try.prog f_law12_ExprEvals [.rep (ExR x), .rep (RowS vals)] (.is (.bool (evalsF vals x))) :=
  CallTy.of (fn := Try.f5) Try.func5 (n := 57) rfl rfl rfl (fun _ _ => by kernel_rfl) fun E W => by
  repeat refine J.seq ?_
  refine J.plain ?_
  refine JO.box rfl rfl fun b2 => ?_
  refine JO.t (ob_assign rfl) rfl ?_
  refine JO.nil ?_
  repeat (first | refine JX.next ?_ | refine JX.normal_block ?_)
  refine J.sel [1, 2] (.cons rfl (.cons rfl .nil)) ?_
  repeat refine J.seq ?_
  refine J.plain ?_
  refine JO.t (ob_call rfl (c_law12_awake) .nil) rfl ?_
  refine JO.t (ob_not rfl) rfl ?_
  refine JO.nil ?_
  repeat (first | refine JX.next ?_ | refine JX.normal_block ?_)
  refine J.sel [1, 2, 14] (.cons rfl (.cons rfl (.cons rfl .nil))) ?_
  repeat refine J.seq ?_
  refine J.cond rfl (fun ht14 => ?_) (fun ht14 => ?_)
  ·
    try simp only [decide_eq_true_eq, decide_eq_false_iff_not] at ht14
    repeat refine J.seq ?_
    refine J.plain ?_
    refine JO.t (ob_assign rfl) rfl ?_
    refine JO.nil ?_
    repeat (first | refine JX.next ?_ | refine JX.normal_block ?_)
    refine J.sel [4] (.cons rfl .nil) ?_
    repeat refine J.seq ?_
    refine J.ret ?_
    repeat (first | refine JX.ret_pass ?_ | refine JX.ret_block ?_)
    exact JX.ret1is rfl rfl (by simp at ht14)
  ·
    try simp only [decide_eq_true_eq, decide_eq_false_iff_not] at ht14
    refine J.skip ?_
    repeat (first | refine JX.next ?_ | refine JX.normal_block ?_)
    repeat refine J.seq ?_
    refine J.plain ?_
    refine JO.t (ob_ldEx sz_api_Expr rfl) rfl ?_
    refine JO.t (ob_move rfl) rfl ?_
    refine JO.t (ob_call rfl (c_expr_Eval _ _) (.one rfl (.one rfl .nil))) rfl ?_
    refine JO.t (ob_move rfl) rfl ?_
    refine JO.t (ob_extract0 rfl) rfl ?_
    refine JO.t (ob_extract1 rfl) rfl ?_
    refine JO.alloc zo_api_Value rfl fun b5 => ?_
    refine JO.m (obm_store rfl rfl (by repeat (first | exact .here | apply Upd.there)) (by exact cnt_is rfl rfl) (by first | exact cnt_is rfl rfl | exact cnt_ex) ss_api_Value) (by rfl) ?_
    refine JO.t (ob_assign rfl) rfl ?_
    refine JO.nil ?_
    repeat (first | refine JX.next ?_ | refine JX.normal_block ?_)
    refine J.sel [1, 2, 5, 6] (.cons rfl (.cons rfl (.cons rfl (.cons rfl .nil)))) ?_
    repeat refine J.seq ?_
    refine J.plain ?_
    refine JO.t (ob_ldEx sz_api_Expr rfl) rfl ?_
    refine JO.t (ob_move rfl) rfl ?_
    refine JO.t (ob_call rfl (c_ref12_Eval vals x hx hv) (.one rfl (.one rfl .nil))) rfl ?_
    refine JO.t (ob_move rfl) rfl ?_
    refine JO.t (ob_extract0 rfl) rfl ?_
    refine JO.t (ob_extract1 rfl) rfl ?_
    refine JO.alloc zo_api_Value rfl fun b7 => ?_
    refine JO.m (obm_store rfl rfl (by repeat (first | exact .here | apply Upd.there)) (by exact cnt_is rfl rfl) (by first | exact cnt_is rfl rfl | exact cnt_ex) ss_api_Value) (by rfl) ?_
    refine JO.t (ob_assign rfl) rfl ?_
    refine JO.nil ?_
    repeat (first | refine JX.next ?_ | refine JX.normal_block ?_)
    refine J.sel [1, 2, 5, 6, 7, 8] (.cons rfl (.cons rfl (.cons rfl (.cons rfl (.cons rfl (.cons rfl .nil)))))) ?_
    repeat refine J.seq ?_
    refine J.plain ?_
    refine JO.t (ob_ldEx sz_api_Expr rfl) rfl ?_
    refine JO.t (ob_move rfl) rfl ?_
    refine JO.t (ob_call rfl (c_expr_Holds _ _) (.one rfl (.one rfl .nil))) rfl ?_
    refine JO.t (ob_move rfl) rfl ?_
    refine JO.t (ob_extract0 rfl) rfl ?_
    refine JO.t (ob_extract1 rfl) rfl ?_
    refine JO.t (ob_assign rfl) rfl ?_
    refine JO.t (ob_assign rfl) rfl ?_
    refine JO.nil ?_
    repeat (first | refine JX.next ?_ | refine JX.normal_block ?_)
    refine J.sel [1, 2, 5, 6, 7, 8, 9, 10] (.cons rfl (.cons rfl (.cons rfl (.cons rfl (.cons rfl (.cons rfl (.cons rfl (.cons rfl .nil)))))))) ?_
    repeat refine J.seq ?_
    refine J.plain ?_
    refine JO.t (ob_ldEx sz_api_Expr rfl) rfl ?_
    refine JO.t (ob_move rfl) rfl ?_
    refine JO.t (ob_call rfl (c_ref12_Holds vals x hx hv) (.one rfl (.one rfl .nil))) rfl ?_
    refine JO.t (ob_move rfl) rfl ?_
    refine JO.t (ob_extract0 rfl) rfl ?_
    refine JO.t (ob_extract1 rfl) rfl ?_
    refine JO.t (ob_assign rfl) rfl ?_
    refine JO.t (ob_assign rfl) rfl ?_
    refine JO.nil ?_
    repeat (first | refine JX.next ?_ | refine JX.normal_block ?_)
    refine J.sel [5, 6, 7, 8, 9, 10, 11, 12] (.cons rfl (.cons rfl (.cons rfl (.cons rfl (.cons rfl (.cons rfl (.cons rfl (.cons rfl .nil)))))))) ?_
    repeat refine J.seq ?_
    refine J.reg0 hmx (by kernel_rfl) (by kernel_rfl) ?_
    refine RT.t (ob_ldN (cs := [_, _, _]) sz_api_Value rfl rfl rfl) ?_
    refine RT.t (ob_ldN (cs := [_, _, _]) sz_api_Value rfl rfl rfl) ?_
    refine RT.t (ob_veq veq_api_Value rfl rfl) ?_
    refine RT.t (ob_move rfl) ?_
    refine RT.g rfl rfl rfl (fun hg => ob_move (.inl rfl)) ?_
    refine RT.g rfl rfl rfl (fun hg => ob_move (.inl rfl)) ?_
    refine RT.g rfl rfl rfl (fun hg => ob_eql (.inr ⟨_, rfl, fun h => h⟩) (.inr ⟨_, rfl, fun h => h⟩)) ?_
    refine RT.t (ob_pickAnd rfl rfl rfl id) ?_
    refine RT.t (ob_move rfl) ?_
    refine RT.g rfl rfl rfl (fun hg => ob_move (.inl rfl)) ?_
    refine RT.g rfl rfl rfl (fun hg => ob_move (.inl rfl)) ?_
    refine RT.g rfl rfl rfl (fun hg => ob_beql un_bool (.inr ⟨_, rfl, fun h => h⟩) (.inr ⟨_, rfl, fun h => h⟩)) ?_
    refine RT.t (ob_pickAnd rfl rfl rfl id) ?_
    refine RT.t (ob_move rfl) ?_
    refine RT.g rfl rfl rfl (fun hg => ob_move (.inl rfl)) ?_
    refine RT.g rfl rfl rfl (fun hg => ob_move (.inl rfl)) ?_
    refine RT.g rfl rfl rfl (fun hg => ob_eql (.inr ⟨_, rfl, fun h => h⟩) (.inr ⟨_, rfl, fun h => h⟩)) ?_
    refine RT.t (ob_pickAnd rfl rfl rfl id) ?_
    refine RT.t (ob_assign rfl) ?_
    refine RT.nil ?_
    refine FinS.nil0 ?_
    repeat (first | refine JX.next ?_ | refine JX.normal_block ?_)
    refine J.sel [4] (.cons rfl .nil) ?_
    repeat refine J.seq ?_
    refine J.ret ?_
    repeat (first | refine JX.ret_pass ?_ | refine JX.ret_block ?_)
    exact JX.ret1is rfl rfl (by rfl)
end Go.Proofs.Ytibbnimcnepggaa
