/- order: the queue, written. No condition. -/
import Derived.Test.YtgpikmonklainaaXD
set_option maxRecDepth 20000
namespace Go.Proofs.Ytgpikmonklainaa
open Go Go.Vc
open Go.Vl Go.Od
theorem c_p_order_queue_Push (dn : List Bool) (da : Option Addr) (dl dcap : Nat) (U ls : List LV) (qb : Nat) (z : St) (hG : GL ls z) (x : LV) (hn : ls.length ≤ 1048576) : CallL Try.prog f_p_order_queue_Push (QL ty_order_queue ty_order_line qb (.slice da dl dcap) ls.length z) [RowG boC 1 dn da dl, LVF U] [.is (.pointer (some ⟨qb, 0, none⟩)), .is (.iface ty_order_line x.v)] (fun z : St => GL (ls ++ [x]) z) (fun z => QL ty_order_queue ty_order_line qb (.slice da dl dcap) (ls.length + 1) z) (fun _ => .is (.tuple #[])) :=
by
  unfold QL
  refine CallL.of (fn := Try.f82) Try.func82 (n := 15) rfl rfl rfl (fun _ _ => by kernel_rfl) fun E W hb0 => ?_
  repeat refine J.seq ?_
  refine J.regBm (G := GrG LV.c 2 (ls ++ [x])) (Tg := fun g => .is (sliceO g.1.1 (ls ++ [x]).length g.1.2)) (Lg := fun g => ⟨qb, ty_order_queue, .is (.agg [sliceO z.1 ls.length z.2, .slice da dl dcap].toArray)⟩ :: ownO g.1.1 ty_order_line []) 8 9 [⟨qb, ty_order_queue, .is (.agg [sliceO z.1 ls.length z.2, .slice da dl dcap].toArray)⟩] rfl rfl rfl rfl hmx (by kernel_rfl) rfl (by kernel_rfl) (fun o ho => by rw [List.mem_singleton.1 ho]; exact List.mem_cons_self) (fun g o ho => by rw [List.mem_singleton.1 ho]; exact List.mem_cons_self) ?_
  refine RT.t (ob_move rfl) ?_
  refine RT.t (ob_move rfl) ?_
  refine RT.t (ob_nilCheck rfl) ?_
  refine RT.t (ob_fieldAddr fo_order_queue_0 rfl) ?_
  refine RT.t (ob_ld1 sz_sl_order_line rfl rfl) ?_
  refine RT.t (ob_move rfl) ?_
  refine RT.t (ob_assert (d := .struct (Try.prog.fieldsOf 55)) (by kernel_rfl) rfl rfl) ?_
  refine RT.t (ob_buildSlice (cs := [_, _]) sl_sl_order_line (by omega) (by omega) (.cons rfl .nil) rfl rfl rfl) ?_
  refine RT.big (big_ap (en := LV.c) (xs := ls) (e := ty_order_line) [x] ap_sl_order_line (.there .here) hG rfl rfl (fun L => src_new un_sl_order_line rfl rfl) (by simp) (by simp <;> omega) (by simp <;> omega)) ?_
  refine RT.nil ?_
  intro g
  obtain ⟨⟨st1, cp1⟩, hG1⟩ := g
  try dsimp only
  refine JO.t (ob_nilCheck rfl) rfl ?_
  refine JO.t (ob_fieldAddr fo_order_queue_0 rfl) rfl ?_
  refine JO.m (obm_storeF1 (cs' := [_, _]) (sliceO_cells _ _ _) (sliceO_one _ _ _) rfl rfl (by repeat (first | exact .here | apply Upd.there)) rfl rfl ss_sl_order_line) (by rfl) ?_
  refine JO.nil ?_
  refine JX.normal_ret ?_
  exact JX.retL0 (Lr := []) rfl (st1, cp1) (by simpa using hG1) (by simp) (by cases st1 <;> rfl) hb0 rfl
theorem c_p_order_queue_Pop (dn : List Bool) (da : Option Addr) (dl dcap : Nat) (U ls : List LV) (qb : Nat) (z : St) (hG : GL ls z) (hne : 0 < ls.length) (hn : ls.length ≤ 1048576) : CallL Try.prog f_p_order_queue_Pop (QL ty_order_queue ty_order_line qb (.slice da dl dcap) ls.length z) [RowG boC 1 dn da dl, LVF U] [.is (.pointer (some ⟨qb, 0, none⟩))] (fun z : St => GL (ls.take (ls.length - 1)) z) (fun z => QL ty_order_queue ty_order_line qb (.slice da dl dcap) (ls.length - 1) z) (fun _ => .is (.iface ty_order_line (ls.getD (ls.length - 1) lv0).v)) :=
by
  obtain ⟨b, cs, cap, rfl⟩ := gl_some hG hne
  refine CallL.of (fn := Try.f81) Try.func81 (n := 32) rfl rfl rfl (fun _ _ => by kernel_rfl) fun E W hb0 => ?_
  show J Try.prog _ _ [⟨qb, ty_order_queue, .is (.agg [.slice (some ⟨b, 0, none⟩) ls.length cap, .slice da dl dcap].toArray)⟩, ⟨b, ty_order_line, .is (.agg cs.toArray)⟩] _ _ _
  repeat refine J.seq ?_
  refine J.plain ?_
  refine JO.t (ob_assign rfl) rfl ?_
  refine JO.nil ?_
  repeat (first | refine JX.next ?_ | refine JX.normal_block ?_)
  refine J.sel [0] (.cons rfl .nil) ?_
  repeat refine J.seq ?_
  refine J.reg0 hmx (by kernel_rfl) (by kernel_rfl) ?_
  refine RT.t (ob_move rfl) ?_
  refine RT.t (ob_nilCheck rfl) ?_
  refine RT.t (ob_fieldAddr fo_order_queue_0 rfl) ?_
  refine RT.t (ob_ld1 sz_sl_order_line rfl rfl) ?_
  refine RT.t (ob_move rfl) ?_
  refine RT.t (ob_nilCheck rfl) ?_
  refine RT.t (ob_fieldAddr fo_order_queue_0 rfl) ?_
  refine RT.t (ob_ld1 sz_sl_order_line rfl rfl) ?_
  refine RT.t (ob_len un_sl_order_line rfl) ?_
  refine RT.t (ob_subc (cc := ((ls.length - 1 : Nat) : Int)) rfl rfl (by omega) (by omega) (by omega)) ?_
  refine RT.t (ob_indexAddr el_sl_order_line rfl rfl rfl (by omega) (by omega)) ?_
  refine RT.t (ob_ldLine (i := ls.length - 1) sz_order_line rfl (by repeat (first | exact List.mem_cons_self | apply List.mem_cons_of_mem)) hG (by omega) (by omega)) ?_
  refine RT.n zc_order_line ?_
  refine RT.s 12 rfl rfl rfl rfl (cnt_is rfl rfl) ss_order_line (by simp) ?_
  refine RT.nil ?_
  refine FinS.cons fun b3 => ?_
  refine FinS.nil1 ?_
  repeat (first | refine JX.next ?_ | refine JX.normal_block ?_)
  refine J.sel [0, 3] (.cons rfl (.cons rfl .nil)) ?_
  repeat refine J.seq ?_
  refine J.regS 14 hmx (by kernel_rfl) (by kernel_rfl) ?_
  refine RT.t (ob_move rfl) ?_
  refine RT.t (ob_move rfl) ?_
  refine RT.t (ob_nilCheck rfl) ?_
  refine RT.t (ob_fieldAddr fo_order_queue_0 rfl) ?_
  refine RT.t (ob_ld1 sz_sl_order_line rfl rfl) ?_
  refine RT.t (ob_move rfl) ?_
  refine RT.t (ob_nilCheck rfl) ?_
  refine RT.t (ob_fieldAddr fo_order_queue_0 rfl) ?_
  refine RT.t (ob_ld1 sz_sl_order_line rfl rfl) ?_
  refine RT.t (ob_len un_sl_order_line rfl) ?_
  refine RT.t (ob_subc (cc := ((ls.length - 1 : Nat) : Int)) rfl rfl (by omega) (by omega) (by omega)) ?_
  refine RT.t (ob_sliceHi un_sl_order_line el_sl_order_line rfl rfl (by omega) (by obtain ⟨h1, h2, h3⟩ := hG; omega)) ?_
  refine RT.t (ob_nilCheck rfl) ?_
  refine RT.t (ob_fieldAddr fo_order_queue_0 rfl) ?_
  refine RT.nil ?_
  refine FinS.tail0 ?_
  refine JO.m (obm_storeF (cs' := [_, _]) rfl rfl (by repeat (first | exact .here | apply Upd.there)) rfl rfl rfl rfl ss_sl_order_line) (by rfl) ?_
  refine JO.nil ?_
  repeat (first | refine JX.next ?_ | refine JX.normal_block ?_)
  refine J.sel [3] (.cons rfl .nil) ?_
  repeat refine J.seq ?_
  refine J.plain ?_
  refine JO.t (ob_ldN (cs := [_, _]) sz_order_line rfl rfl rfl) rfl ?_
  refine JO.t (ob_iface (d := .struct (Try.prog.fieldsOf 55)) (by kernel_rfl) rfl rfl) rfl ?_
  refine JO.t (ob_assign rfl) rfl ?_
  refine JO.nil ?_
  repeat (first | refine JX.next ?_ | refine JX.normal_block ?_)
  refine J.sel [2] (.cons rfl .nil) ?_
  repeat refine J.seq ?_
  refine J.ret ?_
  repeat (first | refine JX.ret_pass ?_ | refine JX.ret_block ?_)
  exact JX.retL1 (Lr := [_]) (R := fun _ : St => .is _) (L1 := fun z => QL ty_order_queue ty_order_line qb (.slice da dl dcap) (ls.length - 1) z) rfl (some (b, cs), cap) (gl_take hG _ (by omega) (by intro e; rw [e] at hne; cases hne)) (List.perm_append_comm (l₁ := [_]) (l₂ := [_, _])) rfl rfl hb0 rfl Sub.rfl'
end Go.Proofs.Ytgpikmonklainaa
