/- slices.Clone of a row, as a block of its caller. No condition. -/
import Derived.Test.YtgpikmonklainaaXGQ
import Derived.Test.YtgpikmonklainaaXCL
set_option maxRecDepth 20000
namespace Go.Proofs.Ytgpikmonklainaa
open Go Go.Vc
open Go.Vl Go.Od
theorem c_slices_Clone_sl_api_Value_api_Value_L (xs : List V3) (hl : xs.length ≤ 1048576) : CallL Try.prog f_slices_Clone_sl_api_Value_api_Value [] [] [.rep (SlG V3.cells 3 xs)] (fun z : Option (Nat × List Value) × Nat => Grows V3.cells 3 xs z.1 z.2) (fun z => ownO z.1 ty_api_Value []) (fun z => .is (sliceO z.1 xs.length z.2)) :=
CallL.of (fn := Try.f26) Try.func26 (n := 8) rfl rfl rfl (fun _ _ => by kernel_rfl) fun E W hb0 => by
  refine J.openSl (s := 0) rfl (fun a len cap b o hlen ha0 => ?_)
  subst hlen
  repeat refine J.seq ?_
  refine J.plain ?_
  refine JO.t (ob_assign rfl) rfl ?_
  refine JO.nil ?_
  repeat (first | refine JX.next ?_ | refine JX.normal_block ?_)
  refine J.sel [0] (.cons rfl .nil) ?_
  repeat refine J.seq ?_
  refine J.plain ?_
  refine JO.t (ob_move rfl) rfl ?_
  refine JO.t (ob_nilS un_sl_api_Value rfl rfl) rfl ?_
  refine JO.nil ?_
  repeat (first | refine JX.next ?_ | refine JX.normal_block ?_)
  refine J.sel [0, 4] (.cons rfl (.cons rfl .nil)) ?_
  repeat refine J.seq ?_
  refine J.cond rfl (fun ht4 => ?_) (fun ht4 => ?_)
  ·
    try simp only [decide_eq_true_eq, decide_eq_false_iff_not] at ht4
    repeat refine J.seq ?_
    refine J.plain ?_
    refine JO.t (ob_assign rfl) rfl ?_
    refine JO.nil ?_
    repeat (first | refine JX.next ?_ | refine JX.normal_block ?_)
    refine J.sel [2] (.cons rfl .nil) ?_
    repeat refine J.seq ?_
    refine J.ret ?_
    repeat (first | refine JX.ret_pass ?_ | refine JX.ret_block ?_)
    have hx : xs = [] := by
      cases xs with
      | nil => rfl
      | cons x l =>
        have h1 := ha0 (by simp)
        rw [h1] at ht4
        cases ht4
    subst hx
    exact JX.retL1 (fn := Try.f26) (Zp := fun z : Option (Nat × List Value) × Nat => Grows V3.cells 3 ([] : List V3) z.1 z.2) (L1 := fun z => ownO z.1 ty_api_Value []) (R := fun z => .is (sliceO z.1 ([] : List V3).length z.2)) (Lr := []) rfl (none, 0) rfl (.refl _) rfl rfl hb0 rfl (Sub.isEq rfl)
  ·
    try simp only [decide_eq_true_eq, decide_eq_false_iff_not] at ht4
    refine J.skip ?_
    repeat (first | refine JX.next ?_ | refine JX.normal_block ?_)
    repeat refine J.seq ?_
    refine J.plain ?_
    refine JO.buildOwn0 sl_sl_api_Value rfl (fun b5 => ?_)
    refine JO.t (ob_move rfl) rfl ?_
    refine JO.apS (xs) ap_sl_api_Value (by repeat (first | exact .here | apply Cx.past | apply Cx.there)) (xs := []) (en := V3.cells) ⟨rfl, Nat.le_refl _, rfl⟩ rfl rfl (fun L => src_slF v3_len (by omega) v3_one un_sl_api_Value (by repeat (first | exact List.mem_cons_self | apply List.mem_cons_of_mem))) (by simp; omega) (by simp; omega) rfl (fun p1 cp1 hG1 => ?_)
    try dsimp only
    rw [List.nil_append] at hG1 ⊢
    refine JO.t (ob_assign rfl) rfl ?_
    refine JO.nil ?_
    repeat (first | refine JX.next ?_ | refine JX.normal_block ?_)
    refine J.sel [2] (.cons rfl .nil) ?_
    repeat refine J.seq ?_
    refine J.ret ?_
    repeat (first | refine JX.ret_pass ?_ | refine JX.ret_block ?_)
    exact JX.retL1 (fn := Try.f26) (Zp := fun z : Option (Nat × List Value) × Nat => Grows V3.cells 3 xs z.1 z.2) (L1 := fun z => ownO z.1 ty_api_Value []) (R := fun z => .is (sliceO z.1 xs.length z.2)) (Lr := []) rfl (some p1, cp1) hG1 (List.Perm.of_eq (List.append_nil _).symm) rfl rfl hb0 rfl (Sub.isEq rfl)
end Go.Proofs.Ytgpikmonklainaa
