/- The tokens of a text: what the statement does. No condition. -/
import Derived.Test.YtjjgckmdfblmgaaDoorXRK
import Derived.Test.YtjjgckmdfblmgaaDoorXM
import Derived.Test.YtjjgckmdfblmgaaDoorXG4
set_option maxRecDepth 20000
namespace Go.Proofs.YtjjgckmdfblmgaaDoor
open Go Go.Vc
theorem c_law09_LexCuts (s : ByteArray) : CallF Tryd.prog f_law09_LexCuts [GF] [.is (.string s)] (.is (.bool true)) :=
CallF.of (fn := Tryd.f3) Tryd.func3 (n := 27) rfl rfl rfl (fun _ _ => by kernel_rfl) fun E W => by
  repeat refine J.seq ?_
  refine J.plain ?_
  refine JO.t (ob_assign rfl) rfl ?_
  refine JO.nil ?_
  repeat (first | refine JX.next ?_ | refine JX.normal_block ?_)
  refine J.sel [0] (.cons rfl .nil) ?_
  repeat refine J.seq ?_
  refine J.plain ?_
  refine JO.t (ob_callF rfl (c_law09_awake) (by simp) .nil) rfl ?_
  refine JO.t (ob_not rfl) rfl ?_
  refine JO.nil ?_
  repeat (first | refine JX.next ?_ | refine JX.normal_block ?_)
  refine J.sel [0, 8] (.cons rfl (.cons rfl .nil)) ?_
  repeat refine J.seq ?_
  refine J.cond rfl (fun ht8 => ?_) (fun ht8 => ?_)
  ·
    try simp only [decide_eq_true_eq, decide_eq_false_iff_not] at ht8
    repeat refine J.seq ?_
    refine J.plain ?_
    refine JO.t (ob_assign rfl) rfl ?_
    refine JO.nil ?_
    repeat (first | refine JX.next ?_ | refine JX.normal_block ?_)
    refine J.sel [2] (.cons rfl .nil) ?_
    repeat refine J.seq ?_
    refine J.ret ?_
    repeat (first | refine JX.ret_pass ?_ | refine JX.ret_block ?_)
    exact JX.ret1is rfl rfl (by simp at ht8)
  ·
    try simp only [decide_eq_true_eq, decide_eq_false_iff_not] at ht8
    refine J.skip ?_
    repeat (first | refine JX.next ?_ | refine JX.normal_block ?_)
    repeat refine J.seq ?_
    refine J.plain ?_
    refine JO.t (ob_move rfl) rfl ?_
    refine JO.t (ob_callF rfl (c_lex_All s) (by simp) (.one rfl .nil)) rfl ?_
    refine JO.t (ob_move rfl) rfl ?_
    refine JO.t (ob_extract0 rfl) rfl ?_
    refine JO.t (ob_extract1 rfl) rfl ?_
    refine JO.t (ob_assign rfl) rfl ?_
    refine JO.t (ob_assign rfl) rfl ?_
    refine JO.nil ?_
    repeat (first | refine JX.next ?_ | refine JX.normal_block ?_)
    refine J.sel [0, 3, 4] (.cons rfl (.cons rfl (.cons rfl .nil))) ?_
    repeat refine J.seq ?_
    refine J.plain ?_
    refine JO.t (ob_move rfl) rfl ?_
    refine JO.t (ob_call rfl (c_ref09_All s) (.one rfl .nil)) rfl ?_
    refine JO.t (ob_move rfl) rfl ?_
    refine JO.t (ob_extract0 rfl) rfl ?_
    refine JO.t (ob_extract1 rfl) rfl ?_
    refine JO.t (ob_assign rfl) rfl ?_
    refine JO.t (ob_assign rfl) rfl ?_
    refine JO.nil ?_
    repeat (first | refine JX.next ?_ | refine JX.normal_block ?_)
    refine J.sel [3, 4, 5, 6] (.cons rfl (.cons rfl (.cons rfl (.cons rfl .nil)))) ?_
    repeat refine J.seq ?_
    refine J.reg0 hmx (by kernel_rfl) (by kernel_rfl) ?_
    refine RT.t (ob_move rfl) ?_
    refine RT.t (ob_move rfl) ?_
    refine RT.t (ob_eql rfl rfl) ?_
    refine RT.t (ob_move rfl) ?_
    refine RT.g rfl rfl rfl (fun hg => ob_move (.inl rfl)) ?_
    refine RT.g rfl rfl rfl (fun hg => ob_move (.inl rfl)) ?_
    refine RT.g rfl rfl rfl (fun hg => ob_call (.inl rfl) (c_ref09_Same (lexL s.data.toList).1 (lexL s.data.toList).1 (by have := lexL_len s.data.toList; omega)) (.one (.inr ⟨_, rfl, fun h => h⟩) (.one (.inr ⟨_, rfl, fun h => h⟩) .nil))) ?_
    refine RT.t (ob_pickAnd rfl rfl rfl id) ?_
    refine RT.t (ob_assign rfl) ?_
    refine RT.nil ?_
    refine FinS.nil0 ?_
    repeat (first | refine JX.next ?_ | refine JX.normal_block ?_)
    refine J.sel [2] (.cons rfl .nil) ?_
    repeat refine J.seq ?_
    refine J.ret ?_
    repeat (first | refine JX.ret_pass ?_ | refine JX.ret_block ?_)
    exact JX.ret1is rfl rfl (by rw [sameT_refl]; simp)
end Go.Proofs.YtjjgckmdfblmgaaDoor
