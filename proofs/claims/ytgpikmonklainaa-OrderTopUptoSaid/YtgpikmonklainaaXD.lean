/- order: the queue, read. No condition. -/
import Derived.Test.YtgpikmonklainaaXC
set_option maxRecDepth 20000
namespace Go.Proofs.Ytgpikmonklainaa
open Go Go.Vc
open Go.Vl Go.Od
theorem gl_some {ls : List LV} {z : St} (h : GL ls z) (hn : 0 < ls.length) : ∃ b cs cap, z = (some (b, cs), cap) := by
  obtain ⟨st, cap⟩ := z
  cases st with
  | none =>
    have : ls = [] := h
    rw [this] at hn
    cases hn
  | some p => exact ⟨p.1, p.2, cap, rfl⟩
theorem allIs1 {o : Own} {V : Value} (h : o.T = .is V) : AllIs [o] := fun x hx => by rw [List.mem_singleton.1 hx]; exact ⟨V, h⟩
theorem nd1 {o : Own} : ∀ (E : Nat → Prop) (w : World), (∀ x ∈ [o], x.at E w) → ([o].map (·.b)).Nodup := fun _ _ _ => by simp
theorem c_p_order_queue_Len (dn : List Bool) (da : Option Addr) (dl dcap : Nat) (U ls : List LV) (qb : Nat) (z : St) (hls : ∀ p ∈ ls, p ∈ U) (hG : GL ls z) (hn63 : ls.length ≤ 9223372036854775806)  : CallL Try.prog f_p_order_queue_Len (QL ty_order_queue ty_order_line qb (.slice da dl dcap) ls.length z) [RowG boC 1 dn da dl, LVF U] [.is (.pointer (some ⟨qb, 0, none⟩))] (fun _ : Unit => True) (fun _ => QL ty_order_queue ty_order_line qb (.slice da dl dcap) ls.length z) (fun _ => .is (.int .i64 (ls.length : Nat))) :=
by
  obtain ⟨cap1, e1⟩ := sliceO_ad hG
  unfold QL
  rw [e1]
  refine CallL.of (fn := Try.f24) Try.func24 (n := 8) rfl rfl rfl (fun _ _ => by kernel_rfl) fun E W hb0 => ?_
  repeat refine J.seq ?_
  refine J.plain ?_
  refine JO.t (ob_assign rfl) rfl ?_
  refine JO.nil ?_
  repeat (first | refine JX.next ?_ | refine JX.normal_block ?_)
  refine J.sel [0] (.cons rfl .nil) ?_
  repeat refine J.seq ?_
  refine J.plain ?_
  refine JO.t (ob_move rfl) rfl ?_
  refine JO.t (ob_nilCheck rfl) rfl ?_
  refine JO.t (ob_fieldAddr fo_order_queue_0 rfl) rfl ?_
  refine JO.t (ob_ld1 sz_sl_order_line rfl rfl) rfl ?_
  refine JO.t (ob_len un_sl_order_line rfl) rfl ?_
  refine JO.t (ob_assign rfl) rfl ?_
  refine JO.nil ?_
  repeat (first | refine JX.next ?_ | refine JX.normal_block ?_)
  refine J.sel [2] (.cons rfl .nil) ?_
  repeat refine J.seq ?_
  refine J.ret ?_
  repeat (first | refine JX.ret_pass ?_ | refine JX.ret_block ?_)
  exact JX.retL1 (Lr := []) (R := fun _ : Unit => .is _) rfl () trivial (by rw [List.append_nil]) (by obtain ⟨st, cp⟩ := z; cases st <;> rfl) rfl hb0 rfl Sub.rfl'
theorem c_p_order_queue_Less (dn : List Bool) (da : Option Addr) (dl dcap : Nat) (U ls : List LV) (qb : Nat) (z : St) (hls : ∀ p ∈ ls, p ∈ U) (hG : GL ls z) (hn63 : ls.length ≤ 9223372036854775806) (hU : ∀ p ∈ U, p.k.row.length = dn.length ∧ p.r.row.length ≤ 9223372036854775806) (hdn : dn.length ≤ 9223372036854775806) (i j : Nat) (hi : i < ls.length) (hj : j < ls.length) : CallL Try.prog f_p_order_queue_Less (QL ty_order_queue ty_order_line qb (.slice da dl dcap) ls.length z) [RowG boC 1 dn da dl, LVF U] [.is (.pointer (some ⟨qb, 0, none⟩)), .is (.int .i64 (i : Nat)), .is (.int .i64 (j : Nat))] (fun _ : Unit => True) (fun _ => QL ty_order_queue ty_order_line qb (.slice da dl dcap) ls.length z) (fun _ => .is (.bool (ltL dn (ls.getD j lv0).ln (ls.getD i lv0).ln))) :=
by
  obtain ⟨b, cs, cap, rfl⟩ := gl_some hG (by omega)
  refine CallL.of (fn := Try.f80) Try.func80 (n := 24) rfl rfl rfl (fun _ _ => by kernel_rfl) fun E W hb0 => ?_
  show J Try.prog _ _ [⟨qb, ty_order_queue, .is (.agg [.slice (some ⟨b, 0, none⟩) ls.length cap, .slice da dl dcap].toArray)⟩, ⟨b, ty_order_line, .is (.agg cs.toArray)⟩] _ _ _
  repeat refine J.seq ?_
  refine J.plain ?_
  refine JO.t (ob_assign rfl) rfl ?_
  refine JO.nil ?_
  repeat (first | refine JX.next ?_ | refine JX.normal_block ?_)
  refine J.sel [0, 1, 2] (.cons rfl (.cons rfl (.cons rfl .nil))) ?_
  repeat refine J.seq ?_
  refine J.reg0 hmx (by kernel_rfl) (by kernel_rfl) ?_
  refine RT.t (ob_move rfl) ?_
  refine RT.t (ob_move rfl) ?_
  refine RT.t (ob_nilCheck rfl) ?_
  refine RT.t (ob_fieldAddr fo_order_queue_0 rfl) ?_
  refine RT.t (ob_ld1 sz_sl_order_line rfl rfl) ?_
  refine RT.t (ob_move rfl) ?_
  refine RT.t (ob_indexAddr el_sl_order_line rfl rfl rfl (by omega) (by omega)) ?_
  refine RT.t (ob_ldLine (i := i) sz_order_line rfl (by repeat (first | exact List.mem_cons_self | apply List.mem_cons_of_mem)) hG hi (by omega)) ?_
  refine RT.t (ob_move rfl) ?_
  refine RT.t (ob_nilCheck rfl) ?_
  refine RT.t (ob_fieldAddr fo_order_queue_0 rfl) ?_
  refine RT.t (ob_ld1 sz_sl_order_line rfl rfl) ?_
  refine RT.t (ob_move rfl) ?_
  refine RT.t (ob_indexAddr el_sl_order_line rfl rfl rfl (by omega) (by omega)) ?_
  refine RT.t (ob_ldLine (i := j) sz_order_line rfl (by repeat (first | exact List.mem_cons_self | apply List.mem_cons_of_mem)) hG hj (by omega)) ?_
  refine RT.t (ob_callO rfl (c_p_order_queue_compare dn da dl dcap U (ls.getD i lv0) (ls.getD j lv0) qb (.slice (some ⟨b, 0, none⟩) ls.length cap) (hls _ (by rw [getD_lt (by omega)]; exact List.getElem_mem (by omega))) (hls _ (by rw [getD_lt (by omega)]; exact List.getElem_mem (by omega))) (hU _ (hls _ (by rw [getD_lt (by omega)]; exact List.getElem_mem (by omega)))).1 (hU _ (hls _ (by rw [getD_lt (by omega)]; exact List.getElem_mem (by omega)))).1 (hU _ (hls _ (by rw [getD_lt (by omega)]; exact List.getElem_mem (by omega)))).2 hdn) (allIs1 rfl) (fun o ho => by rw [List.mem_singleton.1 ho]; exact List.mem_cons_self) nd1 (fun _ h => h) (.one rfl (.one rfl (.one rfl .nil)))) ?_
  refine RT.t (ob_gtr rfl rfl) ?_
  refine RT.t (ob_assign rfl) ?_
  refine RT.nil ?_
  refine FinS.nil0 ?_
  repeat (first | refine JX.next ?_ | refine JX.normal_block ?_)
  refine J.sel [6] (.cons rfl .nil) ?_
  repeat refine J.seq ?_
  refine J.ret ?_
  repeat (first | refine JX.ret_pass ?_ | refine JX.ret_block ?_)
  exact JX.retL1 (Lr := []) (L1 := fun _ => [_, _]) (R := fun _ : Unit => .is _) rfl () trivial (.refl _) rfl rfl hb0 rfl (Sub.isEq (congrArg _ (less_eq dn (hU _ (hls _ (by rw [getD_lt (by omega)]; exact List.getElem_mem (by omega)))).1 (hU _ (hls _ (by rw [getD_lt (by omega)]; exact List.getElem_mem (by omega)))).1)))
end Go.Proofs.Ytgpikmonklainaa
