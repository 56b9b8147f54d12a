/- slices.Clone of a row: new memory. No condition. -/
import Derived.Test.YtgpikmonklainaaXJM
import Derived.Test.YtgpikmonklainaaXG5
set_option maxRecDepth 20000
namespace Go.Proofs.Ytgpikmonklainaa
open Go Go.Vc
open Go.Vl Go.Od
theorem v3_len (v : V3) : v.cells.length = 3 := rfl
theorem v3_one (x : V3) : ∀ u ∈ x.cells, u.oneCell' = true := fun u hu => by
  simp only [V3.cells, List.mem_cons, List.not_mem_nil, or_false] at hu
  rcases hu with rfl | rfl | rfl <;> rfl
theorem nsl_size {α : Type} {N : Nat} {en : α → List Value} {sz : Nat} {xs : List α} : ∀ (E : Nat → Prop) (w : World) (vs : List Value), TyAll E w [.rep (NSl N en sz xs)] vs → N ≤ w.heap.size
  | _, _, [_], ⟨h, _⟩ => (Pers.now h).1
  | _, _, [], h => h.elim
  | _, _, _ :: _ :: _, ⟨_, h⟩ => h.elim
theorem c_slices_Clone_sl_api_Value_api_Value (N : Nat) (xs : List V3) (hl : xs.length ≤ 1048576) : CallTy Try.prog f_slices_Clone_sl_api_Value_api_Value [.rep (NSl N V3.cells 3 xs)] (.rep (SlF N ty_api_Value V3.cells 3 xs)) :=
  CallTy.ofN (N := N) nsl_size (fn := Try.f26) Try.func26 (n := 8) rfl rfl rfl (fun _ _ => by kernel_rfl) fun E W hNW => by
  refine J.coer (s := 0) rfl Sub.ofNSl ?_
  refine J.openSlC (s := 0) rfl (fun a len cap b o hlen ha0 _ => ?_)
  subst hlen
  repeat refine J.seq ?_
  refine J.plain ?_
  refine JO.t (ob_assign rfl) rfl ?_
  refine JO.nil ?_
  repeat (first | refine JX.next ?_ | refine JX.normal_block ?_)
  refine J.sel [0] (.cons rfl .nil) ?_
  repeat refine J.seq ?_
  refine J.plain ?_
  refine JO.t (ob_move rfl) rfl ?_
  refine JO.t (ob_nilS un_sl_api_Value rfl rfl) rfl ?_
  refine JO.nil ?_
  repeat (first | refine JX.next ?_ | refine JX.normal_block ?_)
  refine J.sel [0, 4] (.cons rfl (.cons rfl .nil)) ?_
  repeat refine J.seq ?_
  refine J.cond rfl (fun ht4 => ?_) (fun ht4 => ?_)
  ·
    try simp only [decide_eq_true_eq, decide_eq_false_iff_not] at ht4
    repeat refine J.seq ?_
    refine J.plain ?_
    refine JO.t (ob_assign rfl) rfl ?_
    refine JO.nil ?_
    repeat (first | refine JX.next ?_ | refine JX.normal_block ?_)
    refine J.sel [2] (.cons rfl .nil) ?_
    repeat refine J.seq ?_
    refine J.ret ?_
    repeat (first | refine JX.ret_pass ?_ | refine JX.ret_block ?_)
    have hx : xs = [] := by
      cases xs with
      | nil => rfl
      | cons x l =>
        have h1 := ha0 (by simp)
        rw [h1] at ht4
        cases ht4
    exact JX.ret1sub rfl rfl rfl (by rw [hx]; exact Sub.slFNil)
  ·
    try simp only [decide_eq_true_eq, decide_eq_false_iff_not] at ht4
    refine J.skip ?_
    repeat (first | refine JX.next ?_ | refine JX.normal_block ?_)
    repeat refine J.seq ?_
    refine J.plain ?_
    refine JO.buildOwn0 sl_sl_api_Value rfl (fun b5 => ?_)
    refine JO.t (ob_move rfl) rfl ?_
    refine JO.apS (xs) ap_sl_api_Value (by repeat (first | exact .here | apply Cx.past | apply Cx.there)) (xs := []) (en := V3.cells) ⟨rfl, Nat.le_refl _, rfl⟩ rfl rfl (fun L => src_slF v3_len (by omega) v3_one un_sl_api_Value (by repeat (first | exact List.mem_cons_self | apply List.mem_cons_of_mem))) (by simp; omega) (by simp; omega) rfl (fun p1 cp1 hG1 => ?_)
    try dsimp only
    rw [List.nil_append] at hG1 ⊢
    refine JO.t (ob_assign rfl) rfl ?_
    refine JO.nil ?_
    repeat (first | refine JX.next ?_ | refine JX.normal_block ?_)
    refine J.sel [2] (.cons rfl .nil) ?_
    repeat refine J.seq ?_
    refine J.freezeOW hNW v3_len hG1 (e := ty_api_Value) (by repeat (first | exact .here | apply Tl.past | apply Tl.there)) (fun _ h => h) rfl rfl ?_
    refine J.ret ?_
    repeat (first | refine JX.ret_pass ?_ | refine JX.ret_block ?_)
    exact JX.ret1sub rfl rfl rfl (Sub.slF hG1 (by repeat (first | exact List.mem_cons_self | apply List.mem_cons_of_mem)) (by repeat (first | exact List.mem_cons_self | apply List.mem_cons_of_mem)))
end Go.Proofs.Ytgpikmonklainaa
