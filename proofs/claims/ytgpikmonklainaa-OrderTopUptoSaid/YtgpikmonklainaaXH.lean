/- container/heap over the queue: down. No condition. -/
import Derived.Test.YtgpikmonklainaaXG
set_option maxRecDepth 20000
namespace Go.Proofs.Ytgpikmonklainaa
open Go Go.Vc
open Go.Vl Go.Od
abbrev dnO (dn : List Bool) (l : List LV) (i n : Nat) : List LV := down (ltL dn) LV.ln lv0 l i n
abbrev bgO (dn : List Bool) (l : List LV) (i n : Nat) : Nat := big (ltL dn) LV.ln lv0 l i n
theorem dnO_step {dn : List Bool} {l : List LV} {i n : Nat} (h0 : 2 * i + 1 < n) (h : ltL dn (l.getD i lv0).ln (l.getD (bgO dn l i n) lv0).ln = true) : dnO dn l i n = dnO dn (swp lv0 l i (bgO dn l i n)) (bgO dn l i n) n := by
  unfold dnO
  rw [down, dif_pos ⟨h0, h⟩]
theorem dnO_stop {dn : List Bool} {l : List LV} {i n : Nat} (h : ¬ (2 * i + 1 < n ∧ ltL dn (l.getD i lv0).ln (l.getD (bgO dn l i n) lv0).ln = true)) : dnO dn l i n = l := by
  unfold dnO
  rw [down, dif_neg h]
theorem bgO_r {dn : List Bool} {l : List LV} {i n : Nat} (h1 : 2 * i + 2 < n) (h2 : ltL dn (l.getD (2 * i + 1) lv0).ln (l.getD (2 * i + 2) lv0).ln = true) : bgO dn l i n = 2 * i + 2 := by
  unfold bgO big
  rw [if_pos ⟨h1, h2⟩]
theorem bgO_l {dn : List Bool} {l : List LV} {i n : Nat} (h : ¬ (2 * i + 2 < n ∧ ltL dn (l.getD (2 * i + 1) lv0).ln (l.getD (2 * i + 2) lv0).ln = true)) : bgO dn l i n = 2 * i + 1 := by
  unfold bgO big
  rw [if_neg h]
theorem c_container_heap_down (dn : List Bool) (da : Option Addr) (dl dcap : Nat) (U ls : List LV) (qb : Nat) (z : St) (hG : GL ls z) (hls0 : ∀ p ∈ ls, p ∈ U) (hU : ∀ p ∈ U, p.k.row.length = dn.length ∧ p.r.row.length ≤ 9223372036854775806) (hdn : dn.length ≤ 9223372036854775806) (i0 n : Nat) (hn0 : n ≤ ls.length) (hi0 : i0 < ls.length) (hn : ls.length ≤ 1048576) : CallL Try.prog f_container_heap_down (QL ty_order_queue ty_order_line qb (.slice da dl dcap) ls.length z) [RowG boC 1 dn da dl, LVF U] [.is (.iface ty_p_order_queue (.pointer (some ⟨qb, 0, none⟩))), .is (.int .i64 (i0 : Nat)), .is (.int .i64 (n : Nat))] (fun z : St × Bool => GL (dnO dn ls i0 n) z.1) (fun z => QL ty_order_queue ty_order_line qb (.slice da dl dcap) ls.length z.1) (fun z => .is (.bool z.2)) :=
CallL.of (fn := Try.f44) Try.func44 (n := 48) rfl rfl rfl (fun _ _ => by kernel_rfl) fun E W hb0 => by
  repeat refine J.seq ?_
  refine J.plain ?_
  refine JO.t (ob_assign rfl) rfl ?_
  refine JO.nil ?_
  repeat (first | refine JX.next ?_ | refine JX.normal_block ?_)
  refine J.sel [0, 1, 2] (.cons rfl (.cons rfl (.cons rfl .nil))) ?_
  repeat refine J.seq ?_
  refine J.plain ?_
  refine JO.t (ob_move rfl) rfl ?_
  refine JO.t (ob_assign rfl) rfl ?_
  refine JO.nil ?_
  repeat (first | refine JX.next ?_ | refine JX.normal_block ?_)
  refine J.sel [0, 1, 2, 7] (.cons rfl (.cons rfl (.cons rfl (.cons rfl .nil)))) ?_
  repeat refine J.seq ?_
  refine J.block ?_
  repeat refine J.seq ?_
  refine J.loopG (α := Nat × List LV × St) (fun y => [(0, .is (.iface ty_p_order_queue (.pointer (some ⟨qb, 0, none⟩)))), (1, .is (.int .i64 (i0 : Nat))), (2, .is (.int .i64 (n : Nat))), (7, .is (.int .i64 (y.1 : Nat)))]) (fun y => QL ty_order_queue ty_order_line qb (.slice da dl dcap) y.2.1.length y.2.2) (fun y => fun _ => True) (fun y => y.1 < ls.length ∧ y.2.1.length = ls.length ∧ (∀ p ∈ y.2.1, p ∈ U) ∧ GL y.2.1 y.2.2 ∧ dnO dn y.2.1 y.1 n = dnO dn ls i0 n) (fun y => ls.length - y.1) (i0, ls, z) [0, 1, 2, 7] (.cons rfl (.cons rfl (.cons rfl (.cons rfl .nil)))) rfl (fun _ => trivial) ⟨hi0, rfl, hls0, hG, rfl⟩ fun ⟨i, l, z⟩ ⟨hi, hl, hls, hG, hs⟩ => ?_
  try dsimp only
  try dsimp only at l
  try dsimp only at z
  try dsimp only at hi
  try dsimp only at hl
  try dsimp only at hls
  try dsimp only at hG
  try dsimp only at hs
  repeat refine J.seq ?_
  refine J.block ?_
  repeat refine J.seq ?_
  refine J.plain ?_
  refine JO.t (ob_move rfl) rfl ?_
  refine JO.t (ob_mulv (v := ((2 * i : Nat) : Int)) rfl rfl (by rw [wrap64_eq (by omega) (by omega)]; omega)) rfl ?_
  refine JO.t (ob_addc (cc := ((2 * i + 1 : Nat) : Int)) rfl rfl (by omega) (by omega) (by omega)) rfl ?_
  refine JO.t (ob_assign rfl) rfl ?_
  refine JO.nil ?_
  repeat (first | refine JX.next ?_ | refine JX.normal_block ?_)
  refine J.sel [0, 1, 2, 7, 8] (.cons rfl (.cons rfl (.cons rfl (.cons rfl (.cons rfl .nil))))) ?_
  repeat refine J.seq ?_
  refine J.reg0 hmx (by kernel_rfl) (by kernel_rfl) ?_
  refine RT.t (ob_move rfl) ?_
  refine RT.t (ob_move rfl) ?_
  refine RT.t (ob_geq rfl rfl) ?_
  refine RT.t (ob_move rfl) ?_
  refine RT.g rfl rfl rfl (fun hg => ob_move (.inl rfl)) ?_
  refine RT.g rfl rfl rfl (fun hg => ob_lss (.inr ⟨_, rfl, fun h => h⟩) (.inl rfl)) ?_
  refine RT.t (ob_pickOr rfl rfl rfl id) ?_
  refine RT.nil ?_
  refine FinS.nil0 ?_
  repeat (first | refine JX.next ?_ | refine JX.normal_block ?_)
  refine J.sel [0, 1, 2, 7, 8, 21] (.cons rfl (.cons rfl (.cons rfl (.cons rfl (.cons rfl (.cons rfl .nil)))))) ?_
  repeat refine J.seq ?_
  refine J.cond rfl (fun ht21 => ?_) (fun ht21 => ?_)
  ·
    try simp only [decide_eq_true_eq, decide_eq_false_iff_not] at ht21
    repeat refine J.seq ?_
    refine J.exit ?_
    repeat (first | refine JX.hit ?_ | refine JX.miss rfl ?_ | refine JX.exit_pass ?_)
    repeat (first | refine JX.next ?_ | refine JX.normal_block ?_)
    repeat refine J.seq ?_
    refine J.plain ?_
    refine JO.t (ob_move rfl) rfl ?_
    refine JO.t (ob_move rfl) rfl ?_
    refine JO.t (ob_gtr rfl rfl) rfl ?_
    refine JO.t (ob_assign rfl) rfl ?_
    refine JO.nil ?_
    repeat (first | refine JX.next ?_ | refine JX.normal_block ?_)
    refine J.sel [6] (.cons rfl .nil) ?_
    repeat refine J.seq ?_
    refine J.ret ?_
    repeat (first | refine JX.ret_pass ?_ | refine JX.ret_block ?_)
    exact JX.retL1 (Lr := []) (L1 := fun z : St × Bool => QL ty_order_queue ty_order_line qb (.slice da dl dcap) ls.length z.1) (R := fun z : St × Bool => .is (.bool z.2)) rfl (z, _) (by
        show GL (dnO dn ls i0 n) z
        rw [← hs, dnO_stop (by
          rintro ⟨h1, h2⟩
          simp at ht21
          omega)]
        exact hG) (by rw [List.append_nil, hl]) (ql_out _ _ _ _ _ _) rfl hb0 rfl Sub.rfl'
  ·
    try simp only [decide_eq_true_eq, decide_eq_false_iff_not] at ht21
    refine J.skip ?_
    repeat (first | refine JX.next ?_ | refine JX.normal_block ?_)
    have h21 : 2 * i + 1 < n := by
      simp at ht21
      omega
    repeat refine J.seq ?_
    refine J.plain ?_
    refine JO.t (ob_move rfl) rfl ?_
    refine JO.t (ob_assign rfl) rfl ?_
    refine JO.nil ?_
    repeat (first | refine JX.next ?_ | refine JX.normal_block ?_)
    refine J.sel [0, 1, 2, 7, 8, 9] (.cons rfl (.cons rfl (.cons rfl (.cons rfl (.cons rfl (.cons rfl .nil)))))) ?_
    repeat refine J.seq ?_
    refine J.plain ?_
    refine JO.t (ob_move rfl) rfl ?_
    refine JO.t (ob_addc (cc := ((2 * i + 2 : Nat) : Int)) rfl rfl (by omega) (by omega) (by omega)) rfl ?_
    refine JO.t (ob_assign rfl) rfl ?_
    refine JO.nil ?_
    repeat (first | refine JX.next ?_ | refine JX.normal_block ?_)
    refine J.sel [0, 1, 2, 7, 8, 9, 10] (.cons rfl (.cons rfl (.cons rfl (.cons rfl (.cons rfl (.cons rfl (.cons rfl .nil))))))) ?_
    repeat refine J.seq ?_
    refine J.reg0 hmx (by kernel_rfl) (by kernel_rfl) ?_
    refine RT.t (ob_move rfl) ?_
    refine RT.t (ob_move rfl) ?_
    refine RT.t (ob_lss rfl rfl) ?_
    refine RT.t (ob_move rfl) ?_
    refine RT.g rfl rfl rfl (fun hg => ob_move (.inl rfl)) ?_
    refine RT.g rfl rfl rfl (fun hg => ob_move (.inl rfl)) ?_
    refine RT.g rfl rfl rfl (fun hg => ob_move (.inl rfl)) ?_
    refine RT.g rfl rfl rfl (fun hg => ob_invO (.inr ⟨_, rfl, fun h => h⟩) mLess (c_p_order_queue_Less dn da dl dcap U l qb z hls hG (by omega) hU hdn (2 * i + 2) (2 * i + 1) (by simp at hg; simp at ht21; omega) (by simp at hg; simp at ht21; omega)) (allIsQL (ls := l)) (fun _ h => h) ndQL (fun _ h => List.mem_cons_of_mem _ h) (.one (.inr ⟨_, rfl, fun h => h⟩) (.one (.inr ⟨_, rfl, fun h => h⟩) .nil))) ?_
    refine RT.t (ob_pickAnd rfl rfl rfl id) ?_
    refine RT.nil ?_
    refine FinS.nil0 ?_
    repeat (first | refine JX.next ?_ | refine JX.normal_block ?_)
    refine J.sel [0, 1, 2, 7, 9, 10, 33] (.cons rfl (.cons rfl (.cons rfl (.cons rfl (.cons rfl (.cons rfl (.cons rfl .nil))))))) ?_
    repeat refine J.seq ?_
    refine J.cond rfl (fun ht33 => ?_) (fun ht33 => ?_)
    ·
      try simp only [decide_eq_true_eq, decide_eq_false_iff_not] at ht33
      repeat refine J.seq ?_
      refine J.plain ?_
      refine JO.t (ob_move rfl) rfl ?_
      refine JO.t (ob_assign rfl) rfl ?_
      refine JO.nil ?_
      repeat (first | refine JX.next ?_ | refine JX.normal_block ?_)
      refine J.sel [0, 1, 2, 7, 9] (.cons rfl (.cons rfl (.cons rfl (.cons rfl (.cons rfl .nil))))) ?_
      have h22 : 2 * i + 2 < n ∧ ltL dn (l.getD (2 * i + 1) lv0).ln (l.getD (2 * i + 2) lv0).ln = true := by
        simp only [Bool.and_eq_true, decide_eq_true_eq] at ht33
        exact ⟨by have := ht33.1; omega, ht33.2⟩
      have hb : bgO dn l i n = 2 * i + 2 := bgO_r h22.1 h22.2
      repeat refine J.seq ?_
      refine J.plain ?_
      refine JO.t (ob_move rfl) rfl ?_
      refine JO.t (ob_move rfl) rfl ?_
      refine JO.t (ob_move rfl) rfl ?_
      refine JO.t (ob_invO rfl mLess (c_p_order_queue_Less dn da dl dcap U l qb z hls hG (by omega) hU hdn (2 * i + 2) i (by omega) (by omega)) (allIsQL (ls := l)) (fun _ h => h) ndQL (fun _ h => List.mem_cons_of_mem _ h) (.one rfl (.one rfl .nil))) rfl ?_
      refine JO.t (ob_not rfl) rfl ?_
      refine JO.nil ?_
      repeat (first | refine JX.next ?_ | refine JX.normal_block ?_)
      refine J.sel [0, 1, 2, 7, 9, 39] (.cons rfl (.cons rfl (.cons rfl (.cons rfl (.cons rfl (.cons rfl .nil)))))) ?_
      repeat refine J.seq ?_
      refine J.cond rfl (fun ht39 => ?_) (fun ht39 => ?_)
      ·
        try simp only [decide_eq_true_eq, decide_eq_false_iff_not] at ht39
        repeat refine J.seq ?_
        refine J.exit ?_
        repeat (first | refine JX.hit ?_ | refine JX.miss rfl ?_ | refine JX.exit_pass ?_)
        repeat (first | refine JX.next ?_ | refine JX.normal_block ?_)
        repeat refine J.seq ?_
        refine J.plain ?_
        refine JO.t (ob_move rfl) rfl ?_
        refine JO.t (ob_move rfl) rfl ?_
        refine JO.t (ob_gtr rfl rfl) rfl ?_
        refine JO.t (ob_assign rfl) rfl ?_
        refine JO.nil ?_
        repeat (first | refine JX.next ?_ | refine JX.normal_block ?_)
        refine J.sel [6] (.cons rfl .nil) ?_
        repeat refine J.seq ?_
        refine J.ret ?_
        repeat (first | refine JX.ret_pass ?_ | refine JX.ret_block ?_)
        exact JX.retL1 (Lr := []) (L1 := fun z : St × Bool => QL ty_order_queue ty_order_line qb (.slice da dl dcap) ls.length z.1) (R := fun z : St × Bool => .is (.bool z.2)) rfl (z, _) (by
            show GL (dnO dn ls i0 n) z
            rw [← hs, dnO_stop (by
              rintro ⟨h1, h2⟩
              rw [hb] at h2
              rw [h2] at ht39
              cases ht39)]
            exact hG) (by rw [List.append_nil, hl]) (ql_out _ _ _ _ _ _) rfl hb0 rfl Sub.rfl'
      ·
        try simp only [decide_eq_true_eq, decide_eq_false_iff_not] at ht39
        refine J.skip ?_
        repeat (first | refine JX.next ?_ | refine JX.normal_block ?_)
        repeat refine J.seq ?_
        refine J.plain ?_
        refine JO.t (ob_move rfl) rfl ?_
        refine JO.t (ob_move rfl) rfl ?_
        refine JO.t (ob_move rfl) rfl ?_
        refine JO.invL (Lr := []) rfl mSwap (c_p_order_queue_Swap dn da dl dcap U l qb z hG i (2 * i + 2) (by omega) (by omega) (by omega)) (fun d e => by injection e with e; show d < 48; omega) (by rw [List.append_nil]) (fun _ h => List.mem_cons_of_mem _ h) (.one rfl (.one rfl .nil)) ?_
        intro z1 hz1
        rw [List.append_nil, show l.length = (swp lv0 l i (2 * i + 2)).length from (swp_len _ _ _).symm]
        refine JO.nil ?_
        repeat (first | refine JX.next ?_ | refine JX.normal_block ?_)
        refine J.sel [0, 1, 2, 9] (.cons rfl (.cons rfl (.cons rfl (.cons rfl .nil)))) ?_
        repeat refine J.seq ?_
        refine J.plain ?_
        refine JO.t (ob_move rfl) rfl ?_
        refine JO.t (ob_assign rfl) rfl ?_
        refine JO.nil ?_
        repeat refine JX.normal_block ?_
        refine JX.roundG (x := (i, l, z)) (2 * i + 2, swp lv0 l i (2 * i + 2), z1) ?_ ?_ [0, 1, 2, 7] ?_ ?_ ?_ ?_
        · exact ⟨by show 2 * i + 2 < ls.length; omega, by show (swp lv0 l _ _).length = _; rw [swp_len]; exact hl, fun p hp => hls p ((swp_perm (by omega) (by omega)).mem_iff.1 hp), hz1, by
    show dnO dn (swp lv0 l i (2 * i + 2)) (2 * i + 2) n = _
    have hd := dnO_step (dn := dn) (l := l) (i := i) (n := n) h21 (by rw [hb]; simpa using ht39)
    rw [hb] at hd
    rw [← hs]
    exact hd.symm⟩
        · exact (by show ls.length - (2 * i + 2) < ls.length - i; omega)
        · exact (.cons rfl (.cons rfl (.cons rfl (.cons rfl .nil))))
        · repeat (first | exact .all | exact .nil | refine Has.own (by repeat (first | exact .here | apply Tl.past | apply Tl.there)) ?_ | refine Has.cons (by repeat (first | exact .here | apply Pk.past | apply Pk.there)) ?_)
        · exact fun G hG => by repeat (first | exact hG | refine List.mem_cons_of_mem _ ?_)
        · exact fun _ _ _ => fun _ _ => trivial
    ·
      try simp only [decide_eq_true_eq, decide_eq_false_iff_not] at ht33
      refine J.skip ?_
      repeat (first | refine JX.next ?_ | refine JX.normal_block ?_)
      have hb : bgO dn l i n = 2 * i + 1 := bgO_l (by
        rintro ⟨h1, h2⟩
        rw [h2] at ht33
        simp at ht33
        omega)
      repeat refine J.seq ?_
      refine J.plain ?_
      refine JO.t (ob_move rfl) rfl ?_
      refine JO.t (ob_move rfl) rfl ?_
      refine JO.t (ob_move rfl) rfl ?_
      refine JO.t (ob_invO rfl mLess (c_p_order_queue_Less dn da dl dcap U l qb z hls hG (by omega) hU hdn (2 * i + 1) i (by omega) (by omega)) (allIsQL (ls := l)) (fun _ h => h) ndQL (fun _ h => List.mem_cons_of_mem _ h) (.one rfl (.one rfl .nil))) rfl ?_
      refine JO.t (ob_not rfl) rfl ?_
      refine JO.nil ?_
      repeat (first | refine JX.next ?_ | refine JX.normal_block ?_)
      refine J.sel [0, 1, 2, 7, 9, 39] (.cons rfl (.cons rfl (.cons rfl (.cons rfl (.cons rfl (.cons rfl .nil)))))) ?_
      repeat refine J.seq ?_
      refine J.cond rfl (fun ht39 => ?_) (fun ht39 => ?_)
      ·
        try simp only [decide_eq_true_eq, decide_eq_false_iff_not] at ht39
        repeat refine J.seq ?_
        refine J.exit ?_
        repeat (first | refine JX.hit ?_ | refine JX.miss rfl ?_ | refine JX.exit_pass ?_)
        repeat (first | refine JX.next ?_ | refine JX.normal_block ?_)
        repeat refine J.seq ?_
        refine J.plain ?_
        refine JO.t (ob_move rfl) rfl ?_
        refine JO.t (ob_move rfl) rfl ?_
        refine JO.t (ob_gtr rfl rfl) rfl ?_
        refine JO.t (ob_assign rfl) rfl ?_
        refine JO.nil ?_
        repeat (first | refine JX.next ?_ | refine JX.normal_block ?_)
        refine J.sel [6] (.cons rfl .nil) ?_
        repeat refine J.seq ?_
        refine J.ret ?_
        repeat (first | refine JX.ret_pass ?_ | refine JX.ret_block ?_)
        exact JX.retL1 (Lr := []) (L1 := fun z : St × Bool => QL ty_order_queue ty_order_line qb (.slice da dl dcap) ls.length z.1) (R := fun z : St × Bool => .is (.bool z.2)) rfl (z, _) (by
            show GL (dnO dn ls i0 n) z
            rw [← hs, dnO_stop (by
              rintro ⟨h1, h2⟩
              rw [hb] at h2
              rw [h2] at ht39
              cases ht39)]
            exact hG) (by rw [List.append_nil, hl]) (ql_out _ _ _ _ _ _) rfl hb0 rfl Sub.rfl'
      ·
        try simp only [decide_eq_true_eq, decide_eq_false_iff_not] at ht39
        refine J.skip ?_
        repeat (first | refine JX.next ?_ | refine JX.normal_block ?_)
        repeat refine J.seq ?_
        refine J.plain ?_
        refine JO.t (ob_move rfl) rfl ?_
        refine JO.t (ob_move rfl) rfl ?_
        refine JO.t (ob_move rfl) rfl ?_
        refine JO.invL (Lr := []) rfl mSwap (c_p_order_queue_Swap dn da dl dcap U l qb z hG i (2 * i + 1) (by omega) (by omega) (by omega)) (fun d e => by injection e with e; show d < 48; omega) (by rw [List.append_nil]) (fun _ h => List.mem_cons_of_mem _ h) (.one rfl (.one rfl .nil)) ?_
        intro z1 hz1
        rw [List.append_nil, show l.length = (swp lv0 l i (2 * i + 1)).length from (swp_len _ _ _).symm]
        refine JO.nil ?_
        repeat (first | refine JX.next ?_ | refine JX.normal_block ?_)
        refine J.sel [0, 1, 2, 9] (.cons rfl (.cons rfl (.cons rfl (.cons rfl .nil)))) ?_
        repeat refine J.seq ?_
        refine J.plain ?_
        refine JO.t (ob_move rfl) rfl ?_
        refine JO.t (ob_assign rfl) rfl ?_
        refine JO.nil ?_
        repeat refine JX.normal_block ?_
        refine JX.roundG (x := (i, l, z)) (2 * i + 1, swp lv0 l i (2 * i + 1), z1) ?_ ?_ [0, 1, 2, 7] ?_ ?_ ?_ ?_
        · exact ⟨by show 2 * i + 1 < ls.length; omega, by show (swp lv0 l _ _).length = _; rw [swp_len]; exact hl, fun p hp => hls p ((swp_perm (by omega) (by omega)).mem_iff.1 hp), hz1, by
    show dnO dn (swp lv0 l i (2 * i + 1)) (2 * i + 1) n = _
    have hd := dnO_step (dn := dn) (l := l) (i := i) (n := n) h21 (by rw [hb]; simpa using ht39)
    rw [hb] at hd
    rw [← hs]
    exact hd.symm⟩
        · exact (by show ls.length - (2 * i + 1) < ls.length - i; omega)
        · exact (.cons rfl (.cons rfl (.cons rfl (.cons rfl .nil))))
        · repeat (first | exact .all | exact .nil | refine Has.own (by repeat (first | exact .here | apply Tl.past | apply Tl.there)) ?_ | refine Has.cons (by repeat (first | exact .here | apply Pk.past | apply Pk.there)) ?_)
        · exact fun G hG => by repeat (first | exact hG | refine List.mem_cons_of_mem _ ?_)
        · exact fun _ _ _ => fun _ _ => trivial
end Go.Proofs.Ytgpikmonklainaa
