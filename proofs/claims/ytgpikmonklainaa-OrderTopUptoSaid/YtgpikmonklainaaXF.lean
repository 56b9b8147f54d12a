/- order: two of the queue change places. No condition. -/
import Derived.Test.YtgpikmonklainaaXE
import Derived.Test.YtgpikmonklainaaXG5
set_option maxRecDepth 20000
namespace Go.Proofs.Ytgpikmonklainaa
open Go Go.Vc
open Go.Vl Go.Od
theorem c_p_order_queue_Swap (dn : List Bool) (da : Option Addr) (dl dcap : Nat) (U ls : List LV) (qb : Nat) (z : St) (hG : GL ls z) (i j : Nat) (hi : i < ls.length) (hj : j < ls.length) (hn : ls.length ≤ 1048576) : CallL Try.prog f_p_order_queue_Swap (QL ty_order_queue ty_order_line qb (.slice da dl dcap) ls.length z) [RowG boC 1 dn da dl, LVF U] [.is (.pointer (some ⟨qb, 0, none⟩)), .is (.int .i64 (i : Nat)), .is (.int .i64 (j : Nat))] (fun z : St => GL (swp lv0 ls i j) z) (fun z => QL ty_order_queue ty_order_line qb (.slice da dl dcap) ls.length z) (fun _ => .is (.tuple #[])) :=
by
  obtain ⟨b, cs, cap, rfl⟩ := gl_some hG (by omega)
  refine CallL.of (fn := Try.f83) Try.func83 (n := 32) rfl rfl rfl (fun _ _ => by kernel_rfl) fun E W hb0 => ?_
  show J Try.prog _ _ [⟨qb, ty_order_queue, .is (.agg [.slice (some ⟨b, 0, none⟩) ls.length cap, .slice da dl dcap].toArray)⟩, ⟨b, ty_order_line, .is (.agg cs.toArray)⟩] _ _ _
  repeat refine J.seq ?_
  refine J.regF 25 9 hmx (by kernel_rfl) (by omega) rfl rfl rfl rfl rfl rfl rfl (fun _ _ h => by cases h) (by simp [Op.operands]) (by kernel_rfl) ?_
  refine RT.t (ob_move rfl) ?_
  refine RT.t (ob_nilCheck rfl) ?_
  refine RT.t (ob_fieldAddr fo_order_queue_0 rfl) ?_
  refine RT.t (ob_ld1 sz_sl_order_line rfl rfl) ?_
  refine RT.t (ob_move rfl) ?_
  refine RT.t (ob_move rfl) ?_
  refine RT.t (ob_nilCheck rfl) ?_
  refine RT.t (ob_fieldAddr fo_order_queue_0 rfl) ?_
  refine RT.t (ob_ld1 sz_sl_order_line rfl rfl) ?_
  refine RT.t (ob_move rfl) ?_
  refine RT.t (ob_move rfl) ?_
  refine RT.t (ob_nilCheck rfl) ?_
  refine RT.t (ob_fieldAddr fo_order_queue_0 rfl) ?_
  refine RT.t (ob_ld1 sz_sl_order_line rfl rfl) ?_
  refine RT.t (ob_move rfl) ?_
  refine RT.t (ob_indexAddr el_sl_order_line rfl rfl rfl (by omega) (by omega)) ?_
  refine RT.t (ob_ldLine (i := j) sz_order_line rfl (by repeat (first | exact List.mem_cons_self | apply List.mem_cons_of_mem)) hG hj (by omega)) ?_
  refine RT.t (ob_move rfl) ?_
  refine RT.t (ob_nilCheck rfl) ?_
  refine RT.t (ob_fieldAddr fo_order_queue_0 rfl) ?_
  refine RT.t (ob_ld1 sz_sl_order_line rfl rfl) ?_
  refine RT.t (ob_move rfl) ?_
  refine RT.t (ob_indexAddr el_sl_order_line rfl rfl rfl (by omega) (by omega)) ?_
  refine RT.t (ob_ldLine (i := i) sz_order_line rfl (by repeat (first | exact List.mem_cons_self | apply List.mem_cons_of_mem)) hG hi (by omega)) ?_
  refine RT.t (ob_indexAddr el_sl_order_line rfl rfl rfl (by omega) (by omega)) ?_
  refine RT.nil ?_
  refine FinS.tailF (L' := [⟨qb, ty_order_queue, .is (.agg [.slice (some ⟨b, 0, none⟩) ls.length cap, .slice da dl dcap].toArray)⟩, ⟨b, ty_order_line, .is (.agg (cs.take (2 * i) ++ (ls.getD j lv0).c ++ cs.drop (2 * i + 2)).toArray)⟩]) ?_ ?_ ?_
  rotate_left
  · exact obm_stLine (i := i) (q := ls.getD j lv0) ss_order_line rfl rfl hG hi (by omega) (by repeat (first | exact .here | apply Upd.there))
  rotate_left
  · rfl
  refine JO.t (ob_indexAddr el_sl_order_line rfl rfl rfl (by omega) (by omega)) rfl ?_
  refine JO.m (obm_stLine (i := j) (q := ls.getD i lv0) ss_order_line rfl rfl (gl_set hG hi (ls.getD j lv0)) (by simpa using hj) (by omega) (by repeat (first | exact .here | apply Upd.there))) (by rfl) ?_
  refine JO.nil ?_
  refine JX.normal_ret ?_
  exact JX.retL0 (Lr := []) (L1 := fun z => QL ty_order_queue ty_order_line qb (.slice da dl dcap) ls.length z) rfl (some (b, _), cap) (gl_set (gl_set hG hi (ls.getD j lv0)) (by simpa using hj) (ls.getD i lv0)) (.refl _) rfl hb0 rfl
end Go.Proofs.Ytgpikmonklainaa
