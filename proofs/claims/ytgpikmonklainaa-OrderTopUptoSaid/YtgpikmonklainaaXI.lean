/- container/heap over the queue: Push, Pop. No condition. -/
import Derived.Test.YtgpikmonklainaaXH
set_option maxRecDepth 20000
namespace Go.Proofs.Ytgpikmonklainaa
open Go Go.Vc
open Go.Vl Go.Od
abbrev psO (dn : List Bool) (l : List LV) (x : LV) : List LV := push (ltL dn) LV.ln lv0 l x
abbrev ppO (dn : List Bool) (l : List LV) : List LV := pop (ltL dn) LV.ln lv0 l
abbrev plO (dn : List Bool) (l : List LV) : List LV := popL (ltL dn) LV.ln lv0 l
abbrev tpO (dn : List Bool) (l : List LV) : LV := top (ltL dn) LV.ln lv0 l
theorem c_container_heap_Push (dn : List Bool) (da : Option Addr) (dl dcap : Nat) (U ls : List LV) (qb : Nat) (z : St) (hG : GL ls z) (hls0 : ∀ p ∈ ls, p ∈ U) (hU : ∀ p ∈ U, p.k.row.length = dn.length ∧ p.r.row.length ≤ 9223372036854775806) (hdn : dn.length ≤ 9223372036854775806) (x : LV) (hx : x ∈ U) (hn : ls.length < 1048576) : CallL Try.prog f_container_heap_Push (QL ty_order_queue ty_order_line qb (.slice da dl dcap) ls.length z) [RowG boC 1 dn da dl, LVF U] [.is (.iface ty_p_order_queue (.pointer (some ⟨qb, 0, none⟩))), .is (.iface ty_order_line x.v)] (fun z : St => GL (psO dn ls x) z) (fun z => QL ty_order_queue ty_order_line qb (.slice da dl dcap) (ls.length + 1) z) (fun _ => .is (.tuple #[])) :=
CallL.of (fn := Try.f23) Try.func23 (n := 12) rfl rfl rfl (fun _ _ => by kernel_rfl) fun E W hb0 => by
  repeat refine J.seq ?_
  refine J.plain ?_
  refine JO.t (ob_move rfl) rfl ?_
  refine JO.t (ob_move rfl) rfl ?_
  refine JO.invL (Lr := []) rfl mPush (c_p_order_queue_Push dn da dl dcap U ls qb z hG x (by omega)) (fun d e => by injection e with e; show d < 12; omega) (by rw [List.append_nil]) (fun _ h => h) (.one rfl .nil) ?_
  intro z1 hz1
  rw [List.append_nil, show ls.length + 1 = (ls ++ [x]).length by simp]
  refine JO.nil ?_
  repeat (first | refine JX.next ?_ | refine JX.normal_block ?_)
  refine J.sel [0] (.cons rfl .nil) ?_
  have hm : ∀ p ∈ ls ++ [x], p ∈ U := fun p hp => by
    rcases List.mem_append.1 hp with hp | hp
    · exact hls0 p hp
    · rw [List.mem_singleton.1 hp]; exact hx
  repeat refine J.seq ?_
  refine J.plain ?_
  refine JO.t (ob_move rfl) rfl ?_
  refine JO.t (ob_move rfl) rfl ?_
  refine JO.t (ob_invO rfl mLen (c_p_order_queue_Len dn da dl dcap U (ls ++ [x]) qb z1 hm hz1 (by simp; omega)) (allIsQL (ls := ls)) (fun _ h => h) ndQL (fun _ h => h) .nil) rfl ?_
  refine JO.t (ob_subc (cc := ((ls.length : Nat) : Int)) rfl rfl (by simp) (by omega) (by omega)) rfl ?_
  refine JO.callL (Lr := []) (c_container_heap_up dn da dl dcap U (ls ++ [x]) qb z1 hz1 hm hU hdn ls.length (by simp) (by simp; omega)) (fun d e => by injection e with e; show d < 12; omega) (by rw [List.append_nil]) (fun _ h => h) (.one rfl (.one rfl .nil)) ?_
  intro z2 hz2
  rw [List.append_nil, show (ls ++ [x]).length = ls.length + 1 by simp]
  refine JO.nil ?_
  refine JX.normal_ret ?_
  exact JX.retL0 (Lr := []) (L1 := fun z => QL ty_order_queue ty_order_line qb (.slice da dl dcap) (ls.length + 1) z) rfl z2 hz2 (List.Perm.of_eq (List.append_nil _).symm) (ql_out _ _ _ _ _ _) hb0 rfl
theorem c_container_heap_Pop (dn : List Bool) (da : Option Addr) (dl dcap : Nat) (U ls : List LV) (qb : Nat) (z : St) (hG : GL ls z) (hls0 : ∀ p ∈ ls, p ∈ U) (hU : ∀ p ∈ U, p.k.row.length = dn.length ∧ p.r.row.length ≤ 9223372036854775806) (hdn : dn.length ≤ 9223372036854775806) (hne : 0 < ls.length) (hn : ls.length ≤ 1048576) : CallL Try.prog f_container_heap_Pop (QL ty_order_queue ty_order_line qb (.slice da dl dcap) ls.length z) [RowG boC 1 dn da dl, LVF U] [.is (.iface ty_p_order_queue (.pointer (some ⟨qb, 0, none⟩)))] (fun z : St => GL (ppO dn ls) z) (fun z => QL ty_order_queue ty_order_line qb (.slice da dl dcap) (ls.length - 1) z) (fun _ => .is (.iface ty_order_line (tpO dn ls).v)) :=
CallL.of (fn := Try.f25) Try.func25 (n := 15) rfl rfl rfl (fun _ _ => by kernel_rfl) fun E W hb0 => by
  repeat refine J.seq ?_
  refine J.plain ?_
  refine JO.t (ob_assign rfl) rfl ?_
  refine JO.nil ?_
  repeat (first | refine JX.next ?_ | refine JX.normal_block ?_)
  refine J.sel [0] (.cons rfl .nil) ?_
  repeat refine J.seq ?_
  refine J.plain ?_
  refine JO.t (ob_move rfl) rfl ?_
  refine JO.t (ob_invO rfl mLen (c_p_order_queue_Len dn da dl dcap U ls qb z hls0 hG (by omega)) (allIsQL (ls := ls)) (fun _ h => h) ndQL (fun _ h => h) .nil) rfl ?_
  refine JO.t (ob_subc (cc := ((ls.length - 1 : Nat) : Int)) rfl rfl (by omega) (by omega) (by omega)) rfl ?_
  refine JO.t (ob_assign rfl) rfl ?_
  refine JO.nil ?_
  repeat (first | refine JX.next ?_ | refine JX.normal_block ?_)
  refine J.sel [0, 3] (.cons rfl (.cons rfl .nil)) ?_
  repeat refine J.seq ?_
  refine J.plain ?_
  refine JO.t (ob_move rfl) rfl ?_
  refine JO.t (ob_move rfl) rfl ?_
  refine JO.invL (Lr := []) rfl mSwap (c_p_order_queue_Swap dn da dl dcap U ls qb z hG 0 (ls.length - 1) (by omega) (by omega) (by omega)) (fun d e => by injection e with e; show d < 15; omega) (by rw [List.append_nil]) (fun _ h => h) (.one rfl (.one rfl .nil)) ?_
  intro z1 hz1
  rw [List.append_nil]
  refine JO.subL (L' := QL ty_order_queue ty_order_line qb (.slice da dl dcap) (swp lv0 ls 0 (ls.length - 1)).length z1) (List.Perm.of_eq (by rw [swp_len])) ?_
  refine JO.nil ?_
  repeat (first | refine JX.next ?_ | refine JX.normal_block ?_)
  refine J.sel [0, 3] (.cons rfl (.cons rfl .nil)) ?_
  repeat refine J.seq ?_
  refine J.plain ?_
  refine JO.t (ob_move rfl) rfl ?_
  refine JO.t (ob_move rfl) rfl ?_
  refine JO.callL (Lr := []) (c_container_heap_down dn da dl dcap U (swp lv0 ls 0 (ls.length - 1)) qb z1 hz1 (fun p hp => hls0 p ((swp_perm (by omega) (by omega)).mem_iff.1 hp)) hU hdn 0 (ls.length - 1) (by rw [swp_len]; omega) (by rw [swp_len]; omega) (by rw [swp_len]; omega)) (fun d e => by injection e with e; show d < 15; omega) (by rw [List.append_nil]) (fun _ h => h) (.one rfl (.one rfl (.one rfl .nil))) ?_
  intro z2 hz2
  rw [List.append_nil]
  refine JO.subL (L' := QL ty_order_queue ty_order_line qb (.slice da dl dcap) (plO dn ls).length z2.1) (List.Perm.of_eq (by rw [swp_len, popL_len])) ?_
  refine JO.nil ?_
  repeat (first | refine JX.next ?_ | refine JX.normal_block ?_)
  refine J.sel [0] (.cons rfl .nil) ?_
  repeat refine J.seq ?_
  refine J.plain ?_
  refine JO.t (ob_move rfl) rfl ?_
  refine JO.invL (Lr := []) rfl mPop (c_p_order_queue_Pop dn da dl dcap U (plO dn ls) qb z2.1 hz2 (by rw [popL_len]; omega) (by rw [popL_len]; omega)) (fun d e => by injection e with e; show d < 15; omega) (by rw [List.append_nil]) (fun _ h => h) .nil ?_
  intro z3 hz3
  rw [List.append_nil]
  refine JO.t (ob_assign rfl) rfl ?_
  refine JO.nil ?_
  repeat (first | refine JX.next ?_ | refine JX.normal_block ?_)
  refine J.sel [2] (.cons rfl .nil) ?_
  repeat refine J.seq ?_
  refine J.ret ?_
  repeat (first | refine JX.ret_pass ?_ | refine JX.ret_block ?_)
  have h3 : GL (ppO dn ls) z3 := by
    have h := hz3
    rw [popL_len] at h
    exact h
  rw [show (plO dn ls).length = ls.length from popL_len _]
  exact JX.retL1 (Lr := []) (L1 := fun z => QL ty_order_queue ty_order_line qb (.slice da dl dcap) (ls.length - 1) z) (R := fun _ : St => .is (.iface ty_order_line (tpO dn ls).v)) rfl z3 h3 (List.Perm.of_eq (List.append_nil _).symm) (ql_out _ _ _ _ _ _) rfl hb0 rfl (Sub.isEq rfl)
end Go.Proofs.Ytgpikmonklainaa
