/- Columns, copied. No condition. -/
import Derived.Test.YtjlojkchgfeenaaXR
import Derived.Test.YtjlojkchgfeenaaXG2
set_option maxRecDepth 20000
namespace Go.Proofs.Ytjlojkchgfeenaa
open Go Go.Vc
theorem c3_take {cols : List C3} {i : Nat} (h : i < cols.length) : cols.take i ++ [cols.getD i c3D] = cols.take (i + 1) := by
  rw [List.take_add_one]
  simp [h]
theorem c_law14_scope (cols : List C3) (hl : cols.length ≤ 1048576) : CallTy Try.prog f_law14_scope [.rep (SlG C3.cells 3 cols)] (.rep (SlG C3.cells 3 cols)) :=
  CallTy.of (fn := Try.f16) Try.func16 (n := 31) rfl rfl rfl (fun _ _ => by kernel_rfl) fun E W => by
  refine J.openSl (s := 0) rfl (fun a len cap b o hlen ha => ?_)
  subst hlen
  repeat refine J.seq ?_
  refine J.plain ?_
  refine JO.t (ob_assign rfl) rfl ?_
  refine JO.nil ?_
  repeat (first | refine JX.next ?_ | refine JX.normal_block ?_)
  refine J.sel [0] (.cons rfl .nil) ?_
  repeat refine J.seq ?_
  refine J.plain ?_
  refine JO.t (ob_assign rfl) rfl ?_
  refine JO.nil ?_
  repeat (first | refine JX.next ?_ | refine JX.normal_block ?_)
  refine J.sel [0, 3] (.cons rfl (.cons rfl .nil)) ?_
  repeat refine J.seq ?_
  refine J.plain ?_
  refine JO.t (ob_assign rfl) rfl ?_
  refine JO.nil ?_
  repeat (first | refine JX.next ?_ | refine JX.normal_block ?_)
  refine J.sel [0, 3, 4] (.cons rfl (.cons rfl (.cons rfl .nil))) ?_
  repeat refine J.seq ?_
  refine J.block ?_
  repeat refine J.seq ?_
  refine J.loopG (α := Nat × List C3 × Option (Nat × List Value) × Nat) (fun s => [(0, .is (.slice a cols.length cap)), (3, .is (sliceO s.2.2.1 s.2.1.length s.2.2.2)), (4, .is (.int .i64 (s.1 : Nat)))]) (fun s => ownO s.2.2.1 ty_bind_Col []) (fun s => fun _ => True) (fun s => s.1 ≤ cols.length ∧ s.2.1 = cols.take s.1 ∧ Grows C3.cells 3 s.2.1 s.2.2.1 s.2.2.2) (fun s => cols.length - s.1) (0, [], none, 0) [0, 3, 4] (.cons rfl (.cons rfl (.cons rfl .nil))) rfl (fun _ => trivial) ⟨by omega, rfl, rfl⟩ fun ⟨i, xs, st, cp⟩ ⟨hi, hx, hG⟩ => ?_
  dsimp only
  try dsimp only at xs
  try dsimp only at st
  try dsimp only at cp
  try dsimp only at hi
  try dsimp only at hx
  try dsimp only at hG
  repeat refine J.seq ?_
  refine J.plain ?_
  refine JO.t (ob_move rfl) rfl ?_
  refine JO.t (ob_move rfl) rfl ?_
  refine JO.t (ob_len un_sl_cadastreref14_Col rfl) rfl ?_
  refine JO.t (ob_lss rfl rfl) rfl ?_
  refine JO.nil ?_
  repeat (first | refine JX.next ?_ | refine JX.normal_block ?_)
  refine J.sel [0, 3, 4, 8] (.cons rfl (.cons rfl (.cons rfl (.cons rfl .nil)))) ?_
  repeat refine J.seq ?_
  refine J.cond rfl (fun ht8 => ?_) (fun ht8 => ?_)
  ·
    try simp only [decide_eq_true_eq, decide_eq_false_iff_not] at ht8
    refine J.skip ?_
    repeat (first | refine JX.next ?_ | refine JX.normal_block ?_)
    repeat refine J.seq ?_
    refine J.block ?_
    repeat refine J.seq ?_
    refine J.regS 18 hmx (by kernel_rfl) (by kernel_rfl) ?_
    refine RT.t (ob_move rfl) ?_
    refine RT.t (ob_move rfl) ?_
    refine RT.t (ob_move rfl) ?_
    refine RT.t (ob_indexAddr el_sl_cadastreref14_Col rfl (ha (by omega)) rfl (by omega) (by omega)) ?_
    refine RT.t (ob_fieldAddr fo_cadastreref14_Col_0 rfl) ?_
    refine RT.t (ob_loadG1 (i := i) (j := 0) (y := cols.getD i c3D) sz_string rfl (List.mem_cons_of_mem _ List.mem_cons_self) (ha (by omega)) (c3_get (by omega)) (by omega) rfl) ?_
    refine RT.t (ob_move rfl) ?_
    refine RT.t (ob_move rfl) ?_
    refine RT.t (ob_indexAddr el_sl_cadastreref14_Col rfl (ha (by omega)) rfl (by omega) (by omega)) ?_
    refine RT.t (ob_fieldAddr fo_cadastreref14_Col_1 rfl) ?_
    refine RT.t (ob_loadG1 (i := i) (j := 1) (y := cols.getD i c3D) sz_string rfl (List.mem_cons_of_mem _ List.mem_cons_self) (ha (by omega)) (c3_get (by omega)) (by omega) rfl) ?_
    refine RT.t (ob_move rfl) ?_
    refine RT.t (ob_move rfl) ?_
    refine RT.t (ob_indexAddr el_sl_cadastreref14_Col rfl (ha (by omega)) rfl (by omega) (by omega)) ?_
    refine RT.t (ob_fieldAddr fo_cadastreref14_Col_2 rfl) ?_
    refine RT.t (ob_loadG1 (i := i) (j := 2) (y := cols.getD i c3D) sz_int rfl (List.mem_cons_of_mem _ List.mem_cons_self) (ha (by omega)) (c3_get (by omega)) (by omega) rfl) ?_
    refine RT.t (ob_build (cs := [_, _, _]) sh_bind_Col (.cons rfl (.cons rfl (.cons rfl .nil))) rfl rfl) ?_
    refine RT.t (ob_buildSlice (cs := [_, _, _]) sl_sl_bind_Col (by omega) (by omega) (.cons rfl .nil) rfl rfl rfl) ?_
    refine RT.nil ?_
    refine FinS.tail0 ?_
    have hxl : xs.length = i := by rw [hx]; simp; omega
    refine JO.apO ap_sl_bind_Col C3.len .here hG rfl rfl (ys := [cols.getD i c3D]) (fun L => src_new un_sl_bind_Col rfl rfl) (by simp) (by simp; omega) (by simp; omega) rfl (fun st1 cp1 hG1 => ?_)
    refine JO.t (ob_assign rfl) rfl ?_
    refine JO.nil ?_
    repeat (first | refine JX.next ?_ | refine JX.normal_block ?_)
    refine J.sel [0, 3, 4] (.cons rfl (.cons rfl (.cons rfl .nil))) ?_
    repeat refine J.seq ?_
    refine J.plain ?_
    refine JO.t (ob_move rfl) rfl ?_
    refine JO.t (ob_addc (cc := ((i + 1 : Nat) : Int)) rfl rfl (by omega) (by omega) (by omega)) rfl ?_
    refine JO.t (ob_assign rfl) rfl ?_
    refine JO.nil ?_
    refine JX.roundG (x := ⟨i, xs, st, cp⟩) (i + 1, xs ++ [cols.getD i c3D], st1, cp1) ?_ ?_ [0, 3, 4] ?_ ?_ ?_ ?_
    · exact ⟨by omega, by subst hx; exact c3_take (by omega), hG1⟩
    · exact (by simp only; omega)
    · exact (.cons rfl (.cons rfl (.cons rfl .nil)))
    · repeat (first | exact .all | exact .nil | refine Has.own (by repeat (first | exact .here | apply Tl.past | apply Tl.there)) ?_ | refine Has.cons (by repeat (first | exact .here | apply Pk.past | apply Pk.there)) ?_)
    · exact fun G hG => by repeat (first | exact hG | refine List.mem_cons_of_mem _ ?_)
    · exact fun _ _ _ => fun _ _ => trivial
  ·
    try simp only [decide_eq_true_eq, decide_eq_false_iff_not] at ht8
    repeat refine J.seq ?_
    refine J.exit ?_
    repeat (first | refine JX.hit ?_ | refine JX.miss rfl ?_ | refine JX.exit_pass ?_)
    repeat (first | refine JX.next ?_ | refine JX.normal_block ?_)
    have hxs : xs = cols := by rw [hx]; exact List.take_of_length_le (by omega)
    subst hxs
    refine J.freezeO C3.len hG .here (fun _ h => h) rfl rfl ?_
    repeat refine J.seq ?_
    refine J.plain ?_
    refine JO.t (ob_move rfl) rfl ?_
    refine JO.t (ob_assign rfl) rfl ?_
    refine JO.nil ?_
    repeat (first | refine JX.next ?_ | refine JX.normal_block ?_)
    refine J.sel [2] (.cons rfl .nil) ?_
    repeat refine J.seq ?_
    refine J.ret ?_
    repeat (first | refine JX.ret_pass ?_ | refine JX.ret_block ?_)
    exact JX.ret1sub rfl rfl rfl (Sub.slO hG List.mem_cons_self)
end Go.Proofs.Ytjlojkchgfeenaa
