/- order: Top. No condition. -/
import Derived.Test.YtgpikmonklainaaXCL
import Derived.Test.YtgpikmonklainaaXOG
set_option maxRecDepth 20000
namespace Go.Proofs.Ytgpikmonklainaa
open Go Go.Vc
open Go.Vl Go.Od
theorem nsl_size3 {α : Type} {A B D : Ty} {N : Nat} {en : α → List Value} {sz : Nat} {xs : List α} : ∀ (E : Nat → Prop) (w : World) (vs : List Value), TyAll E w [A, B, .rep (NSl N en sz xs), D] vs → N ≤ w.heap.size
  | _, _, [_, _, _, _], ⟨_, _, h, _⟩ => (Pers.now h).1
  | _, _, [], h => h.elim
  | _, _, [_], ⟨_, h⟩ => h.elim
  | _, _, [_, _], ⟨_, _, h⟩ => h.elim
  | _, _, [_, _, _], ⟨_, _, _, h⟩ => h.elim
  | _, _, _ :: _ :: _ :: _ :: _ :: _, ⟨_, _, _, _, h⟩ => h.elim
abbrev ppT (dn : List Bool) (l : List LV) : List LV := pop (ltL dn) LV.ln lv0 l
theorem c_order_Top (N : Nat) (rows keys : List (List V3)) (dn : List Bool) (limit : Int) (hn : rows.length ≤ 1048576) (hR : ∀ r ∈ rows, r.length ≤ 1048576) (hK : ∀ r ∈ keys, r.length ≤ 1048576) (hdn : dn.length ≤ 1048576) : CallTy Try.prog f_order_Top [.rep (RowsR noG rows), .rep (RowsR noG keys), .rep (NSl N boC 1 dn), .is (.int .i64 limit)] (.tup2 (.rep (RowsR (frG N ty_api_Value ty_sl_api_Value) (topO rows keys dn limit))) (.is (.int .i64 (topE rows keys dn)))) :=
  CallTy.ofN (N := N) nsl_size3 (fn := Try.f11) Try.func11 (n := 93) rfl rfl rfl (fun _ _ => by kernel_rfl) fun E W hNW => by
  refine J.openRows (s := 0) rfl (fun rps ra rl rc rb ro hrm hrl hrc hra => ?_)
  refine J.openRows (s := 1) rfl (fun kps ka kl kc kb ko hkm hkl hkc hka => ?_)
  refine J.coer (s := 2) rfl Sub.ofNSl ?_
  refine J.openSlC (s := 2) rfl (fun da dl dcap db dof hdl hda _ => ?_)
  subst hdl hrl hkl hrm hkm
  refine J.bigger hNW ?_
  refine J.lvF (U := good dn (lvs rps kps)) (rps := rps) (kps := kps) (by repeat (first | exact List.mem_cons_self | apply List.mem_cons_of_mem)) (by repeat (first | exact List.mem_cons_self | apply List.mem_cons_of_mem)) (fun p hp => (List.mem_filter.1 hp).1) ?_
  refine J.know (∀ p ∈ kps, p.row.length = p.len) (fun E w hG _ => fun p hp => ((hG (RVF kps) (by repeat (first | exact List.mem_cons_self | apply List.mem_cons_of_mem))).now p hp).2.1) (fun hkn => ?_)
  rw [List.length_map] at hn
  have hU : ∀ p ∈ good dn (lvs rps kps), p.k.row.length = dn.length ∧ p.r.row.length ≤ 9223372036854775806 := fun p hp => ⟨good_len hp, by have := hR _ (List.mem_map_of_mem (lvs_mem (List.mem_filter.1 hp).1).1); omega⟩
  repeat refine J.seq ?_
  refine J.plain ?_
  refine JO.t (ob_assign rfl) rfl ?_
  refine JO.t (ob_assign rfl) rfl ?_
  refine JO.nil ?_
  repeat (first | refine JX.next ?_ | refine JX.normal_block ?_)
  refine J.sel [0, 1, 2, 3] (.cons rfl (.cons rfl (.cons rfl (.cons rfl .nil)))) ?_
  repeat refine J.seq ?_
  refine J.plain ?_
  refine JO.t (ob_move rfl) rfl ?_
  refine JO.t (ob_len un_sl_sl_api_Value rfl) rfl ?_
  refine JO.t (ob_move rfl) rfl ?_
  refine JO.t (ob_len un_sl_sl_api_Value rfl) rfl ?_
  refine JO.t (ob_neq rfl rfl) rfl ?_
  refine JO.nil ?_
  repeat (first | refine JX.next ?_ | refine JX.normal_block ?_)
  refine J.sel [0, 1, 2, 3, 19] (.cons rfl (.cons rfl (.cons rfl (.cons rfl (.cons rfl .nil))))) ?_
  repeat refine J.seq ?_
  refine J.cond rfl (fun ht19 => ?_) (fun ht19 => ?_)
  ·
    try simp only [decide_eq_true_eq, decide_eq_false_iff_not] at ht19
    repeat refine J.seq ?_
    refine J.plain ?_
    refine JO.t (ob_assign rfl) rfl ?_
    refine JO.t (ob_assign rfl) rfl ?_
    refine JO.nil ?_
    repeat (first | refine JX.next ?_ | refine JX.normal_block ?_)
    refine J.sel [8, 9] (.cons rfl (.cons rfl .nil)) ?_
    repeat refine J.seq ?_
    refine J.ret ?_
    repeat (first | refine JX.ret_pass ?_ | refine JX.ret_block ?_)
    have hb : allOk (rps.map RV.row) (kps.map RV.row) dn = false := by
      unfold allOk
      simp at ht19 ⊢
      intro h
      omega
    exact JX.ret2sub rfl rfl rfl (by rw [topO_bad hb]; exact Sub.rowsNilW) rfl (Sub.isEq (by rw [topE_bad hb]))
  ·
    try simp only [decide_eq_true_eq, decide_eq_false_iff_not] at ht19
    refine J.skip ?_
    repeat (first | refine JX.next ?_ | refine JX.normal_block ?_)
    have hrk : rps.length = kps.length := by simp at ht19; omega
    repeat refine J.seq ?_
    refine J.plain ?_
    refine JO.t (ob_move rfl) rfl ?_
    refine JO.t (ob_build (cs := [_, _]) sh_order_queue (.cons rfl .nil) rfl rfl) rfl ?_
    refine JO.box rfl rfl fun b22 => ?_
    refine JO.t (ob_assign rfl) rfl ?_
    refine JO.nil ?_
    repeat (first | refine JX.next ?_ | refine JX.normal_block ?_)
    refine J.sel [0, 1, 2, 3, 10] (.cons rfl (.cons rfl (.cons rfl (.cons rfl (.cons rfl .nil))))) ?_
    repeat refine J.seq ?_
    refine J.plain ?_
    refine JO.t (ob_move rfl) rfl ?_
    refine JO.t (ob_len un_sl_sl_api_Value rfl) rfl ?_
    refine JO.t (ob_move rfl) rfl ?_
    refine JO.nil ?_
    repeat (first | refine JX.next ?_ | refine JX.normal_block ?_)
    refine J.sel [1, 2, 3, 10, 23, 24, 25] (.cons rfl (.cons rfl (.cons rfl (.cons rfl (.cons rfl (.cons rfl (.cons rfl .nil))))))) ?_
    repeat refine J.seq ?_
    refine J.block ?_
    repeat refine J.seq ?_
    refine J.loopG (α := Nat × List LV × St) (fun y => [(1, .is (.slice ka kps.length kc)), (2, .is (.slice da dn.length dcap)), (3, .is (.int .i64 limit)), (10, .is (.pointer (some ⟨b22, 0, none⟩))), (23, .is (.slice ra rps.length rc)), (24, .is (.int .i64 (rps.length : Nat))), (25, .is (.int .i64 (y.1 : Nat)))]) (fun y => QL ty_order_queue ty_order_line b22 (.slice da dn.length dcap) y.2.1.length y.2.2) (fun y => fun _ => True) (fun y => y.1 ≤ rps.length ∧ GL y.2.1 y.2.2 ∧ Upto dn limit (lvs rps kps) y.1 y.2.1) (fun y => rps.length - y.1) (0, [], (none, 0)) [1, 2, 3, 10, 23, 24, 25] (.cons rfl (.cons rfl (.cons rfl (.cons rfl (.cons rfl (.cons rfl (.cons rfl .nil))))))) rfl (fun _ => trivial) ⟨Nat.zero_le _, rfl, .zero⟩ fun ⟨i, l, z⟩ ⟨hi, hG, hu⟩ => ?_
    try dsimp only
    try dsimp only at l
    try dsimp only at z
    try dsimp only at hi
    try dsimp only at hG
    try dsimp only at hu
    repeat refine J.seq ?_
    refine J.plain ?_
    refine JO.t (ob_lss rfl rfl) rfl ?_
    refine JO.nil ?_
    repeat (first | refine JX.next ?_ | refine JX.normal_block ?_)
    refine J.sel [1, 2, 3, 10, 23, 24, 25, 26] (.cons rfl (.cons rfl (.cons rfl (.cons rfl (.cons rfl (.cons rfl (.cons rfl (.cons rfl .nil)))))))) ?_
    repeat refine J.seq ?_
    refine J.cond rfl (fun ht26 => ?_) (fun ht26 => ?_)
    ·
      try simp only [decide_eq_true_eq, decide_eq_false_iff_not] at ht26
      refine J.skip ?_
      repeat (first | refine JX.next ?_ | refine JX.normal_block ?_)
      repeat refine J.seq ?_
      refine J.block ?_
      have hr1 : (rps.getD i rv0).row.length ≤ 1048576 := hR _ (List.mem_map_of_mem (getD_mem (by omega)))
      have hk1 : (kps.getD i rv0).row.length ≤ 1048576 := hK _ (List.mem_map_of_mem (getD_mem (by omega)))
      have hkl : (kps.getD i rv0).row.length = (kps.getD i rv0).len := hkn _ (getD_mem (by omega))
      repeat refine J.seq ?_
      refine J.plain ?_
      refine JO.t (ob_move rfl) rfl ?_
      refine JO.t (ob_indexAddr el_sl_sl_api_Value rfl (hra (by omega)) rfl (by omega) (by omega)) rfl ?_
      refine JO.t (ob_loadG1 (enc := RV.c) (sz := 1) (i := i) (j := 0) (y := rps.getD i rv0) (u := (rps.getD i rv0).v) sz_sl_api_Value rfl (by repeat (first | exact List.mem_cons_self | apply List.mem_cons_of_mem)) (hra (by omega)) (getD_some (by omega)) (by omega) rfl) rfl ?_
      refine JO.t (ob_assign rfl) rfl ?_
      refine JO.t (ob_assign rfl) rfl ?_
      refine JO.nil ?_
      repeat (first | refine JX.next ?_ | refine JX.normal_block ?_)
      refine J.sel [1, 2, 3, 10, 11, 12, 23, 24, 25] (.cons rfl (.cons rfl (.cons rfl (.cons rfl (.cons rfl (.cons rfl (.cons rfl (.cons rfl (.cons rfl .nil))))))))) ?_
      repeat refine J.seq ?_
      refine J.reg0 hmx (by kernel_rfl) (by kernel_rfl) ?_
      refine RT.t (ob_move rfl) ?_
      refine RT.t (ob_move rfl) ?_
      refine RT.t (ob_indexAddr el_sl_sl_api_Value rfl (hka (by omega)) rfl (by omega) (by omega)) ?_
      refine RT.t (ob_loadG1 (enc := RV.c) (sz := 1) (i := i) (j := 0) (y := kps.getD i rv0) (u := (kps.getD i rv0).v) sz_sl_api_Value rfl (by repeat (first | exact List.mem_cons_self | apply List.mem_cons_of_mem)) (hka (by omega)) (getD_some (by omega)) (by omega) rfl) ?_
      refine RT.t (ob_len un_sl_api_Value rfl) ?_
      refine RT.t (ob_move rfl) ?_
      refine RT.t (ob_len un_sl_bool rfl) ?_
      refine RT.t (ob_neq rfl rfl) ?_
      refine RT.t (ob_move rfl) ?_
      refine RT.g rfl rfl rfl (fun hg => ob_move (.inl rfl)) ?_
      refine RT.g rfl rfl rfl (fun hg => ob_call (.inl rfl) (c_order_may (rps.getD i rv0).row (by omega)) (.sub (.inr ⟨_, rfl, fun h => h⟩) (Sub.rvS (p := rps.getD i rv0) (getD_mem (by omega)) (by repeat (first | exact List.mem_cons_self | apply List.mem_cons_of_mem))) .nil)) ?_
      refine RT.g rfl rfl rfl (fun hg => ob_not (.inr ⟨_, rfl, fun h => h⟩)) ?_
      refine RT.t (ob_pickOr rfl rfl rfl id) ?_
      refine RT.t (ob_move rfl) ?_
      refine RT.g rfl rfl rfl (fun hg => ob_move (.inl rfl)) ?_
      refine RT.g rfl rfl rfl (fun hg => ob_move (.inl rfl)) ?_
      refine RT.g rfl rfl rfl (fun hg => ob_indexAddr el_sl_sl_api_Value (.inr ⟨_, rfl, fun h => h⟩) (hka (by omega)) (.inr ⟨_, rfl, fun h => h⟩) (by omega) (by omega)) ?_
      refine RT.g rfl rfl rfl (fun hg => ob_loadG1 (enc := RV.c) (sz := 1) (i := i) (j := 0) (y := kps.getD i rv0) (u := (kps.getD i rv0).v) sz_sl_api_Value (.inr ⟨_, rfl, fun h => h⟩) (by repeat (first | exact List.mem_cons_self | apply List.mem_cons_of_mem)) (hka (by omega)) (getD_some (by omega)) (by omega) rfl) ?_
      refine RT.g rfl rfl rfl (fun hg => ob_call (.inl rfl) (c_order_may (kps.getD i rv0).row (by omega)) (.sub (.inr ⟨_, rfl, fun h => h⟩) (Sub.rvS (p := kps.getD i rv0) (getD_mem (by omega)) (by repeat (first | exact List.mem_cons_self | apply List.mem_cons_of_mem))) .nil)) ?_
      refine RT.g rfl rfl rfl (fun hg => ob_not (.inr ⟨_, rfl, fun h => h⟩)) ?_
      refine RT.t (ob_pickOr rfl rfl rfl id) ?_
      refine RT.nil ?_
      refine FinS.nil0 ?_
      repeat (first | refine JX.next ?_ | refine JX.normal_block ?_)
      refine J.sel [1, 2, 3, 10, 11, 12, 23, 24, 25, 50] (.cons rfl (.cons rfl (.cons rfl (.cons rfl (.cons rfl (.cons rfl (.cons rfl (.cons rfl (.cons rfl (.cons rfl .nil)))))))))) ?_
      repeat refine J.seq ?_
      refine J.cond rfl (fun ht50 => ?_) (fun ht50 => ?_)
      ·
        try simp only [decide_eq_true_eq, decide_eq_false_iff_not] at ht50
        repeat refine J.seq ?_
        refine J.plain ?_
        refine JO.t (ob_assign rfl) rfl ?_
        refine JO.t (ob_assign rfl) rfl ?_
        refine JO.nil ?_
        repeat (first | refine JX.next ?_ | refine JX.normal_block ?_)
        refine J.sel [8, 9] (.cons rfl (.cons rfl .nil)) ?_
        repeat refine J.seq ?_
        refine J.ret ?_
        repeat (first | refine JX.ret_pass ?_ | refine JX.ret_block ?_)
        have hb : allOk (rps.map RV.row) (kps.map RV.row) dn = false := by
          refine allOk_bad (i := i) (by omega) (by omega) ?_
          simp only [okL, hkl]
          cases h1 : (rps.getD i rv0).row.all okV <;> cases h2 : (kps.getD i rv0).row.all okV <;> rw [h1, h2] at ht50 <;> simp at ht50 ⊢ <;> omega
        exact JX.ret2sub rfl rfl rfl (by rw [topO_bad hb]; exact Sub.rowsNilW) rfl (Sub.isEq (by rw [topE_bad hb]))
      ·
        try simp only [decide_eq_true_eq, decide_eq_false_iff_not] at ht50
        refine J.skip ?_
        repeat (first | refine JX.next ?_ | refine JX.normal_block ?_)
        have hok : okL dn ((LV.mk (rps.getD i rv0) (kps.getD i rv0))).ln = true := by
          show okL dn ((rps.getD i rv0).row, (kps.getD i rv0).row) = true
          simp only [okL, hkl]
          cases h1 : (rps.getD i rv0).row.all okV <;> cases h2 : (kps.getD i rv0).row.all okV <;> rw [h1, h2] at ht50 <;> simp at ht50 ⊢ <;> omega
        have hxx := lvs_get (rps := rps) (kps := kps) (i := i) (by omega) (by omega)
        have hx : (LV.mk (rps.getD i rv0) (kps.getD i rv0)) ∈ good dn (lvs rps kps) := List.mem_filter.2 ⟨List.mem_of_getElem? hxx, hok⟩
        have hm := hu.mem
        have hln := hu.len
        have u1 := hu.step hxx hok
        have hm1 : ∀ p ∈ psO dn l (LV.mk (rps.getD i rv0) (kps.getD i rv0)), p ∈ good dn (lvs rps kps) := hu.pushMem hx
        have hpl : (psO dn l (LV.mk (rps.getD i rv0) (kps.getD i rv0))).length = l.length + 1 := push_len _ _
        repeat refine J.seq ?_
        refine J.plain ?_
        refine JO.t (ob_move rfl) rfl ?_
        refine JO.t (ob_iface (d := .pointer ty_order_queue) (by kernel_rfl) rfl rfl) rfl ?_
        refine JO.t (ob_move rfl) rfl ?_
        refine JO.t (ob_move rfl) rfl ?_
        refine JO.t (ob_move rfl) rfl ?_
        refine JO.t (ob_indexAddr el_sl_sl_api_Value rfl (hka (by omega)) rfl (by omega) (by omega)) rfl ?_
        refine JO.t (ob_loadG1 (enc := RV.c) (sz := 1) (i := i) (j := 0) (y := kps.getD i rv0) (u := (kps.getD i rv0).v) sz_sl_api_Value rfl (by repeat (first | exact List.mem_cons_self | apply List.mem_cons_of_mem)) (hka (by omega)) (getD_some (by omega)) (by omega) rfl) rfl ?_
        refine JO.t (ob_build (cs := [_, _]) sh_order_line (.cons rfl (.cons rfl .nil)) rfl rfl) rfl ?_
        refine JO.t (ob_iface (d := .struct (Try.prog.fieldsOf 55)) (by kernel_rfl) rfl rfl) rfl ?_
        refine JO.callL (Lr := []) (c_container_heap_Push dn da dn.length dcap (good dn (lvs rps kps)) l b22 z hG hm hU (by omega) (LV.mk (rps.getD i rv0) (kps.getD i rv0)) hx (by omega)) (fun d e => by injection e with e; show d < 93; omega) (by rw [List.append_nil]) (fun F hF => by simp only [List.mem_cons, List.not_mem_nil, or_false] at hF; rcases hF with rfl | rfl <;> repeat (first | exact List.mem_cons_self | apply List.mem_cons_of_mem)) (.one rfl (.one rfl .nil)) ?_
        intro z1 hz1
        rw [List.append_nil]
        refine JO.subL (L' := QL ty_order_queue ty_order_line b22 (.slice da dn.length dcap) (psO dn l (LV.mk (rps.getD i rv0) (kps.getD i rv0))).length z1) (List.Perm.of_eq (by rw [hpl])) ?_
        refine JO.nil ?_
        repeat (first | refine JX.next ?_ | refine JX.normal_block ?_)
        refine J.sel [1, 2, 3, 10, 23, 24, 25] (.cons rfl (.cons rfl (.cons rfl (.cons rfl (.cons rfl (.cons rfl (.cons rfl .nil))))))) ?_
        repeat refine J.seq ?_
        refine J.reg0 hmx (by kernel_rfl) (by kernel_rfl) ?_
        refine RT.t (ob_move rfl) ?_
        refine RT.t (ob_geq rfl rfl) ?_
        refine RT.t (ob_move rfl) ?_
        refine RT.g rfl rfl rfl (fun hg => ob_move (.inl rfl)) ?_
        refine RT.g rfl rfl rfl (fun hg => ob_callO (.inl rfl) (c_p_order_queue_Len dn da dn.length dcap (good dn (lvs rps kps)) (psO dn l (LV.mk (rps.getD i rv0) (kps.getD i rv0))) b22 z1 hm1 hz1 (by rw [hpl]; omega)) (allIsQL (ls := psO dn l (LV.mk (rps.getD i rv0) (kps.getD i rv0)))) (fun _ h => h) ndQL (fun F hF => by simp only [List.mem_cons, List.not_mem_nil, or_false] at hF; rcases hF with rfl | rfl <;> repeat (first | exact List.mem_cons_self | apply List.mem_cons_of_mem)) (.one (.inr ⟨_, rfl, fun h => h⟩) .nil)) ?_
        refine RT.g rfl rfl rfl (fun hg => ob_move (.inl rfl)) ?_
        refine RT.g rfl rfl rfl (fun hg => ob_gtr (.inr ⟨_, rfl, fun h => h⟩) (.inr ⟨_, rfl, fun h => h⟩)) ?_
        refine RT.t (ob_pickAnd rfl rfl rfl id) ?_
        refine RT.nil ?_
        refine FinS.nil0 ?_
        repeat (first | refine JX.next ?_ | refine JX.normal_block ?_)
        refine J.sel [1, 2, 3, 10, 23, 24, 25, 68] (.cons rfl (.cons rfl (.cons rfl (.cons rfl (.cons rfl (.cons rfl (.cons rfl (.cons rfl .nil)))))))) ?_
        repeat refine J.seq ?_
        refine J.cond rfl (fun ht68 => ?_) (fun ht68 => ?_)
        ·
          try simp only [decide_eq_true_eq, decide_eq_false_iff_not] at ht68
          repeat refine J.seq ?_
          refine J.plain ?_
          refine JO.t (ob_move rfl) rfl ?_
          refine JO.t (ob_iface (d := .pointer ty_order_queue) (by kernel_rfl) rfl rfl) rfl ?_
          refine JO.callL (Lr := []) (c_container_heap_Pop dn da dn.length dcap (good dn (lvs rps kps)) (psO dn l (LV.mk (rps.getD i rv0) (kps.getD i rv0))) b22 z1 hz1 hm1 hU (by omega) (by rw [hpl]; omega) (by rw [hpl]; omega)) (fun d e => by injection e with e; show d < 93; omega) (by rw [List.append_nil]) (fun F hF => by simp only [List.mem_cons, List.not_mem_nil, or_false] at hF; rcases hF with rfl | rfl <;> repeat (first | exact List.mem_cons_self | apply List.mem_cons_of_mem)) (.one rfl .nil) ?_
          intro z2 hz2
          rw [List.append_nil]
          refine JO.subL (L' := QL ty_order_queue ty_order_line b22 (.slice da dn.length dcap) (ppT dn (psO dn l (LV.mk (rps.getD i rv0) (kps.getD i rv0)))).length z2) (List.Perm.of_eq (by rw [pop_len])) ?_
          refine JO.nil ?_
          repeat (first | refine JX.next ?_ | refine JX.normal_block ?_)
          refine J.sel [1, 2, 3, 10, 23, 24, 25] (.cons rfl (.cons rfl (.cons rfl (.cons rfl (.cons rfl (.cons rfl (.cons rfl .nil))))))) ?_
          repeat refine J.seq ?_
          refine J.plain ?_
          refine JO.t (ob_addc (cc := ((i + 1 : Nat) : Int)) rfl rfl (by omega) (by omega) (by omega)) rfl ?_
          refine JO.t (ob_move rfl) rfl ?_
          refine JO.nil ?_
          repeat refine JX.normal_block ?_
          refine JX.roundG (x := (i, l, z)) (i + 1, ppT dn (psO dn l (LV.mk (rps.getD i rv0) (kps.getD i rv0))), z2) ?_ ?_ [1, 2, 3, 10, 23, 24, 25] ?_ ?_ ?_ ?_
          · exact ⟨by show i + 1 ≤ _; omega, hz2, by have h := u1; unfold step1 at h; rw [if_pos (by simpa using ht68)] at h; exact h⟩
          · exact (by show rps.length - (i + 1) < rps.length - i; omega)
          · exact (.cons rfl (.cons rfl (.cons rfl (.cons rfl (.cons rfl (.cons rfl (.cons rfl .nil)))))))
          · repeat (first | exact .all | exact .nil | refine Has.own (by repeat (first | exact .here | apply Tl.past | apply Tl.there)) ?_ | refine Has.cons (by repeat (first | exact .here | apply Pk.past | apply Pk.there)) ?_)
          · exact fun G hG => by repeat (first | exact hG | refine List.mem_cons_of_mem _ ?_)
          · exact fun _ _ _ => fun _ _ => trivial
        ·
          try simp only [decide_eq_true_eq, decide_eq_false_iff_not] at ht68
          refine J.skip ?_
          repeat (first | refine JX.next ?_ | refine JX.normal_block ?_)
          repeat refine J.seq ?_
          refine J.plain ?_
          refine JO.t (ob_addc (cc := ((i + 1 : Nat) : Int)) rfl rfl (by omega) (by omega) (by omega)) rfl ?_
          refine JO.t (ob_move rfl) rfl ?_
          refine JO.nil ?_
          repeat refine JX.normal_block ?_
          refine JX.roundG (x := (i, l, z)) (i + 1, psO dn l (LV.mk (rps.getD i rv0) (kps.getD i rv0)), z1) ?_ ?_ [1, 2, 3, 10, 23, 24, 25] ?_ ?_ ?_ ?_
          · exact ⟨by show i + 1 ≤ _; omega, hz1, by have h := u1; unfold step1 at h; rw [if_neg (by simpa using ht68)] at h; exact h⟩
          · exact (by show rps.length - (i + 1) < rps.length - i; omega)
          · exact (.cons rfl (.cons rfl (.cons rfl (.cons rfl (.cons rfl (.cons rfl (.cons rfl .nil)))))))
          · repeat (first | exact .all | exact .nil | refine Has.own (by repeat (first | exact .here | apply Tl.past | apply Tl.there)) ?_ | refine Has.cons (by repeat (first | exact .here | apply Pk.past | apply Pk.there)) ?_)
          · exact fun G hG => by repeat (first | exact hG | refine List.mem_cons_of_mem _ ?_)
          · exact fun _ _ _ => fun _ _ => trivial
    ·
      try simp only [decide_eq_true_eq, decide_eq_false_iff_not] at ht26
      repeat refine J.seq ?_
      refine J.exit ?_
      repeat (first | refine JX.hit ?_ | refine JX.miss rfl ?_ | refine JX.exit_pass ?_)
      repeat (first | refine JX.next ?_ | refine JX.normal_block ?_)
      have hi2 : i = rps.length := by omega
      subst hi2
      have hg := allOk_good hrk hu.ok
      have hm := hu.mem
      have hln := hu.len
      obtain ⟨T, hT⟩ : ∃ T, T = cut limit (srt (ltL dn) ((lvs rps kps).map LV.ln)) := ⟨_, rfl⟩
      have hq0 := hu.all (by rw [lvs_len hrk]; omega)
      rw [← hT] at hq0
      have hTl : l.length = T.length := by
        have := hq0.pm.length_eq
        rwa [List.length_map] at this
      repeat refine J.seq ?_
      refine J.plain ?_
      refine JO.t (ob_move rfl) rfl ?_
      refine JO.t (ob_callO rfl (c_p_order_queue_Len dn da dn.length dcap (good dn (lvs rps kps)) l b22 z hm hG (by omega)) (allIsQL (ls := l)) (fun _ h => h) ndQL (fun F hF => by simp only [List.mem_cons, List.not_mem_nil, or_false] at hF; rcases hF with rfl | rfl <;> repeat (first | exact List.mem_cons_self | apply List.mem_cons_of_mem)) (.one rfl .nil)) rfl ?_
      refine JO.mkSl1 un_sl_sl_api_Value (n := l.length) (z := .slice none 0 0) (bytes := 24) (by kernel_rfl) rfl rfl rfl rfl rfl (by omega) (by omega) rfl (fun b75 => ?_)
      rw [outC_start]
      refine JO.t (ob_assign rfl) rfl ?_
      refine JO.nil ?_
      repeat (first | refine JX.next ?_ | refine JX.normal_block ?_)
      refine J.sel [10, 13] (.cons rfl (.cons rfl .nil)) ?_
      repeat refine J.seq ?_
      refine J.plain ?_
      refine JO.t (ob_move rfl) rfl ?_
      refine JO.t (ob_len un_sl_sl_api_Value rfl) rfl ?_
      refine JO.t (ob_subc (cc := (l.length : Int) - 1) rfl rfl rfl (by omega) (by omega)) rfl ?_
      refine JO.t (ob_assign rfl) rfl ?_
      refine JO.nil ?_
      repeat (first | refine JX.next ?_ | refine JX.normal_block ?_)
      refine J.sel [10, 13, 14] (.cons rfl (.cons rfl (.cons rfl .nil))) ?_
      repeat refine J.seq ?_
      refine J.block ?_
      repeat refine J.seq ?_
      refine J.loopG (α := Nat × List LV × St × List RV) (fun y => [(10, .is (.pointer (some ⟨b22, 0, none⟩))), (13, .is (.slice (some ⟨b75, 0, none⟩) l.length l.length)), (14, .is (.int .i64 ((y.1 : Int) - 1)))]) (fun y => ⟨b75, ty_sl_api_Value, .is (.agg (outC y.1 y.2.2.2).toArray)⟩ :: QL ty_order_queue ty_order_line b22 (.slice da dn.length dcap) y.2.1.length y.2.2.1) (fun y => DoneF N ty_api_Value y.2.2.2) (fun y => y.1 ≤ T.length ∧ GL y.2.1 y.2.2.1 ∧ Hq (ltL dn) LV.ln lv0 y.2.1 (T.take y.1) ∧ (∀ p ∈ y.2.1, p ∈ good dn (lvs rps kps)) ∧ y.2.2.2.map RV.row = (T.drop y.1).map Prod.fst) (fun y => y.1) (l.length, l, z, []) [10, 13, 14] (.cons rfl (.cons rfl (.cons rfl .nil))) rfl (fun _ => ⟨fun p hp => absurd hp List.not_mem_nil, fun p hp => absurd hp List.not_mem_nil⟩) ⟨Nat.le_of_eq hTl, hG, by rw [hTl, List.take_length]; exact hq0, hm, by rw [hTl, List.drop_length]; rfl⟩ fun ⟨k, m, z2, ps⟩ ⟨hk, hG2, hq2, hm2, hps⟩ => ?_
      try dsimp only
      try dsimp only at m
      try dsimp only at z2
      try dsimp only at ps
      try dsimp only at hk
      try dsimp only at hG2
      try dsimp only at hq2
      try dsimp only at hm2
      try dsimp only at hps
      repeat refine J.seq ?_
      refine J.plain ?_
      refine JO.t (ob_move rfl) rfl ?_
      refine JO.t (ob_geq rfl rfl) rfl ?_
      refine JO.nil ?_
      repeat (first | refine JX.next ?_ | refine JX.normal_block ?_)
      refine J.sel [10, 13, 14, 80] (.cons rfl (.cons rfl (.cons rfl (.cons rfl .nil)))) ?_
      repeat refine J.seq ?_
      refine J.cond rfl (fun ht80 => ?_) (fun ht80 => ?_)
      ·
        try simp only [decide_eq_true_eq, decide_eq_false_iff_not] at ht80
        refine J.skip ?_
        repeat (first | refine JX.next ?_ | refine JX.normal_block ?_)
        repeat refine J.seq ?_
        refine J.block ?_
        obtain ⟨k, rfl⟩ : ∃ k2, k = k2 + 1 := ⟨k - 1, by omega⟩
        obtain ⟨hml, hTk, hq3, htm, hpm⟩ := pop_round (ordL dn) hq2 hk (fun a ha => good_len (hm2 a ha))
        have htU := hm2 _ htm
        have hrb : (tpO dn m).r.row.length ≤ 1048576 := hR _ (List.mem_map_of_mem (lvs_mem (List.mem_filter.1 htU).1).1)
        have hps3 : ps.length = T.length - (k + 1) := by
          have := congrArg List.length hps
          rwa [List.length_map, List.length_map, List.length_drop] at this
        rw [show (((k + 1 : Nat) : Int) - 1) = (k : Int) by omega]
        repeat refine J.seq ?_
        refine J.plain ?_
        refine JO.t (ob_move rfl) rfl ?_
        refine JO.t (ob_move rfl) rfl ?_
        refine JO.t (ob_move rfl) rfl ?_
        refine JO.t (ob_iface (d := .pointer ty_order_queue) (by kernel_rfl) rfl rfl) rfl ?_
        refine JO.callL (Lr := [_]) (c_container_heap_Pop dn da dn.length dcap (good dn (lvs rps kps)) m b22 z2 hG2 hm2 hU (by omega) (by omega) (by omega)) (fun d e => by injection e with e; show d < 93; omega) (List.perm_append_comm (l₁ := [_])) (fun F hF => by simp only [List.mem_cons, List.not_mem_nil, or_false] at hF; rcases hF with rfl | rfl <;> repeat (first | exact List.mem_cons_self | apply List.mem_cons_of_mem)) (.one rfl .nil) ?_
        intro z3 hz3
        refine JO.subL (L' := ⟨b75, ty_sl_api_Value, .is (.agg (outC (k + 1) ps).toArray)⟩ :: QL ty_order_queue ty_order_line b22 (.slice da dn.length dcap) (ppT dn m).length z3) ((List.perm_append_comm (l₁ := [_])).trans (List.Perm.of_eq (by rw [pop_len]; rfl))) ?_
        refine JO.t (ob_assert (d := .struct (Try.prog.fieldsOf 55)) (by kernel_rfl) rfl rfl) rfl ?_
        refine JO.t (ob_fieldV (off := 0) (e := 36) (by kernel_rfl) rfl rfl) rfl ?_
        refine JO.t (ob_call rfl (c_slices_Clone_sl_api_Value_api_Value N (tpO dn m).r.row hrb) (.sub rfl (Sub.nsl (Sub.lvC (p := tpO dn m) (by repeat (first | exact List.mem_cons_self | apply List.mem_cons_of_mem)) htU) (by repeat (first | exact List.mem_cons_self | apply List.mem_cons_of_mem))) .nil)) rfl ?_
        refine JO.openSlF (s := 90) rfl (fun ca cl cc hcl hcc => ?_)
        refine JO.t (ob_indexAddr el_sl_sl_api_Value rfl rfl rfl (by omega) (by omega)) rfl ?_
        refine JO.m (obm_storeF1 (cs := outC (k + 1) ps) (cs' := outC k (⟨(tpO dn m).r.row, ca, cl, cc⟩ :: ps)) rfl rfl rfl rfl (by repeat (first | exact .here | apply Upd.there)) (by rw [show 0 + Int.toNat (k : Int) * 1 = k by omega]; exact outC_set k ⟨(tpO dn m).r.row, ca, cl, cc⟩ ps) (Nat.ble_eq_true_of_le (by rw [outC_len]; omega)) ss_sl_api_Value) (by rfl) ?_
        refine JO.nil ?_
        repeat (first | refine JX.next ?_ | refine JX.normal_block ?_)
        refine J.sel [10, 13, 14] (.cons rfl (.cons rfl (.cons rfl .nil))) ?_
        repeat refine J.seq ?_
        refine J.plain ?_
        refine JO.t (ob_move rfl) rfl ?_
        refine JO.t (ob_subc (cc := (k : Int) - 1) rfl rfl rfl (by omega) (by omega)) rfl ?_
        refine JO.t (ob_assign rfl) rfl ?_
        refine JO.nil ?_
        repeat refine JX.normal_block ?_
        refine JX.roundG (x := (k + 1, m, z2, ps)) (k, ppT dn m, z3, ⟨(tpO dn m).r.row, ca, cl, cc⟩ :: ps) ?_ ?_ [10, 13, 14] ?_ ?_ ?_ ?_
        · exact ⟨by show k ≤ _; omega, hz3, hq3, fun p hp => hm2 p (hpm p hp), by
    show _ :: ps.map RV.row = (T.drop k).map Prod.fst
    rw [drop_get hTk, List.map_cons, hps]⟩
        · exact (by show k < k + 1; omega)
        · exact (.cons rfl (.cons rfl (.cons rfl .nil)))
        · repeat (first | exact .all | exact .nil | refine Has.own (by repeat (first | exact .here | apply Tl.past | apply Tl.there)) ?_ | refine Has.cons (by repeat (first | exact .here | apply Pk.past | apply Pk.there)) ?_)
        · exact fun G hG => by repeat (first | exact hG | refine List.mem_cons_of_mem _ ?_)
        · exact fun E w hF => fun w2 hk2 => DoneF.cons (hF (DoneF N ty_api_Value ps) (by repeat (first | exact List.mem_cons_self | apply List.mem_cons_of_mem)) w2 hk2) hcc (hF (RowG V3.cells 3 (tpO dn m).r.row ca cl) (by repeat (first | exact List.mem_cons_self | apply List.mem_cons_of_mem)) w2 hk2) (hF (FreshW N ty_api_Value ca cl cc 3) (by repeat (first | exact List.mem_cons_self | apply List.mem_cons_of_mem)) w2 hk2)
      ·
        try simp only [decide_eq_true_eq, decide_eq_false_iff_not] at ht80
        repeat refine J.seq ?_
        refine J.exit ?_
        repeat (first | refine JX.hit ?_ | refine JX.miss rfl ?_ | refine JX.exit_pass ?_)
        repeat (first | refine JX.next ?_ | refine JX.normal_block ?_)
        have hk0 : k = 0 := by omega
        subst hk0
        have hps3 : ps.length = l.length := by
          have := congrArg List.length hps
          rw [List.length_map, List.length_map, List.length_drop] at this
          omega
        refine J.freeze (b := b75) (e := ty_sl_api_Value) (cs := outC 0 ps) (fun _ h => h) rfl (ql_out _ _ _ _ _ _) ?_
        repeat refine J.seq ?_
        refine J.plain ?_
        refine JO.t (ob_move rfl) rfl ?_
        refine JO.t (ob_assign rfl) rfl ?_
        refine JO.t (ob_assign rfl) rfl ?_
        refine JO.nil ?_
        repeat (first | refine JX.next ?_ | refine JX.normal_block ?_)
        refine J.sel [8, 9] (.cons rfl (.cons rfl .nil)) ?_
        repeat refine J.seq ?_
        refine J.ret ?_
        repeat (first | refine JX.ret_pass ?_ | refine JX.ret_block ?_)
        have hrows : ps.map RV.row = topRows limit dn ((rps.map RV.row).zip (kps.map RV.row)) := by
          rw [hps, List.drop_zero, hT, lvs_ln]
          rfl
        exact JX.ret2sub rfl rfl rfl (by rw [topO_ok hg, ← hrows]; exact Sub.rowsNew (b := b75) hps3 rfl (by repeat (first | exact List.mem_cons_self | apply List.mem_cons_of_mem)) (by repeat (first | exact List.mem_cons_self | apply List.mem_cons_of_mem))) rfl (Sub.isEq (by rw [topE_ok hg]))
end Go.Proofs.Ytgpikmonklainaa
