/- container/heap over the queue: up. No condition. -/
import Derived.Test.YtgpikmonklainaaXF
set_option maxRecDepth 20000
namespace Go.Proofs.Ytgpikmonklainaa
open Go Go.Vc
open Go.Vl Go.Od
theorem allIsQL {ls : List LV} {z : St} {tq tl : TypeId} {qb n : Nat} {dv : Value} : AllIs (QL tq tl qb dv n z) := fun o ho => by
  obtain ⟨st, cap⟩ := z
  cases st with
  | none =>
    rw [List.mem_singleton.1 ho]
    exact ⟨_, rfl⟩
  | some p =>
    rcases List.mem_cons.1 ho with rfl | ho
    · exact ⟨_, rfl⟩
    · rw [List.mem_singleton.1 ho]
      exact ⟨_, rfl⟩
theorem ndQL {z : St} {qb n : Nat} {dv : Value} : ∀ (E : Nat → Prop) (w : World), (∀ o ∈ QL ty_order_queue ty_order_line qb dv n z, o.at E w) → ((QL ty_order_queue ty_order_line qb dv n z).map (·.b)).Nodup := fun E w h => by
  obtain ⟨st, cap⟩ := z
  cases st with
  | none => simp [QL, ownO]
  | some p =>
    have h1 := h _ List.mem_cons_self
    have h2 := h _ (List.mem_cons_of_mem _ List.mem_cons_self)
    have := own_ne h1 h2 (show ty_order_queue ≠ ty_order_line by decide)
    simpa [QL, ownO] using this
theorem mSwap : methOf Try.prog ty_p_order_queue "Swap" = some f_p_order_queue_Swap := by kernel_rfl
theorem mLess : methOf Try.prog ty_p_order_queue "Less" = some f_p_order_queue_Less := by kernel_rfl
theorem mLen : methOf Try.prog ty_p_order_queue "Len" = some f_p_order_queue_Len := by kernel_rfl
theorem mPush : methOf Try.prog ty_p_order_queue "Push" = some f_p_order_queue_Push := by kernel_rfl
theorem mPop : methOf Try.prog ty_p_order_queue "Pop" = some f_p_order_queue_Pop := by kernel_rfl
theorem half (j : Nat) : IntKind.i64.wrap (Int.tdiv (IntKind.i64.wrap ((j : Int) - 1)) 2) = (((j - 1) / 2 : Nat) : Int) ∨ 9223372036854775807 < j := by
  by_cases h : 9223372036854775807 < j
  · exact .inr h
  · refine .inl ?_
    rw [wrap64_eq (n := (j : Int) - 1) (by omega) (by omega)]
    cases j with
    | zero => rfl
    | succ k =>
      have e : ((k + 1 : Nat) : Int) - 1 = (k : Int) := by omega
      rw [e, Int.tdiv_eq_ediv_of_nonneg (by omega), wrap64_eq (by omega) (by omega)]
      simp
abbrev upO (dn : List Bool) (l : List LV) (j : Nat) : List LV := up (ltL dn) LV.ln lv0 l j
theorem upO_step {dn : List Bool} {l : List LV} {j : Nat} (h0 : 0 < j) (h : ltL dn (l.getD ((j - 1) / 2) lv0).ln (l.getD j lv0).ln = true) : upO dn l j = upO dn (swp lv0 l ((j - 1) / 2) j) ((j - 1) / 2) := by
  unfold upO
  rw [up, dif_pos ⟨h0, h⟩]
theorem upO_stop {dn : List Bool} {l : List LV} {j : Nat} (h : ¬ (0 < j ∧ ltL dn (l.getD ((j - 1) / 2) lv0).ln (l.getD j lv0).ln = true)) : upO dn l j = l := by
  unfold upO
  rw [up, dif_neg h]
theorem c_container_heap_up (dn : List Bool) (da : Option Addr) (dl dcap : Nat) (U ls : List LV) (qb : Nat) (z : St) (hG : GL ls z) (hls0 : ∀ p ∈ ls, p ∈ U) (hU : ∀ p ∈ U, p.k.row.length = dn.length ∧ p.r.row.length ≤ 9223372036854775806) (hdn : dn.length ≤ 9223372036854775806) (j : Nat) (hj : j < ls.length) (hn : ls.length ≤ 1048576) : CallL Try.prog f_container_heap_up (QL ty_order_queue ty_order_line qb (.slice da dl dcap) ls.length z) [RowG boC 1 dn da dl, LVF U] [.is (.iface ty_p_order_queue (.pointer (some ⟨qb, 0, none⟩))), .is (.int .i64 (j : Nat))] (fun z : St => GL (upO dn ls j) z) (fun z => QL ty_order_queue ty_order_line qb (.slice da dl dcap) ls.length z) (fun _ => .is (.tuple #[])) :=
CallL.of (fn := Try.f43) Try.func43 (n := 23) rfl rfl rfl (fun _ _ => by kernel_rfl) fun E W hb0 => by
  repeat refine J.seq ?_
  refine J.block ?_
  repeat refine J.seq ?_
  refine J.loopG (α := Nat × List LV × St) (fun y => [(0, .is (.iface ty_p_order_queue (.pointer (some ⟨qb, 0, none⟩)))), (1, .is (.int .i64 (y.1 : Nat)))]) (fun y => QL ty_order_queue ty_order_line qb (.slice da dl dcap) y.2.1.length y.2.2) (fun y => fun _ => True) (fun y => y.1 < ls.length ∧ y.2.1.length = ls.length ∧ (∀ p ∈ y.2.1, p ∈ U) ∧ GL y.2.1 y.2.2 ∧ upO dn y.2.1 y.1 = upO dn ls j) (fun y => y.1) (j, ls, z) [0, 1] (.cons rfl (.cons rfl .nil)) rfl (fun _ => trivial) ⟨hj, rfl, hls0, hG, rfl⟩ fun ⟨i, l, z⟩ ⟨hi, hl, hls, hG, hs⟩ => ?_
  try dsimp only
  try dsimp only at l
  try dsimp only at z
  try dsimp only at hi
  try dsimp only at hl
  try dsimp only at hls
  try dsimp only at hG
  try dsimp only at hs
  repeat refine J.seq ?_
  refine J.block ?_
  repeat refine J.seq ?_
  refine J.plain ?_
  refine JO.t (ob_move rfl) rfl ?_
  refine JO.t (ob_sub rfl rfl) rfl ?_
  refine JO.t (ob_quov (v := (((i - 1) / 2 : Nat) : Int)) rfl rfl (by decide) ((half i).resolve_right (by omega))) rfl ?_
  refine JO.t (ob_assign rfl) rfl ?_
  refine JO.nil ?_
  repeat (first | refine JX.next ?_ | refine JX.normal_block ?_)
  refine J.sel [0, 1, 4] (.cons rfl (.cons rfl (.cons rfl .nil))) ?_
  repeat refine J.seq ?_
  refine J.reg0 hmx (by kernel_rfl) (by kernel_rfl) ?_
  refine RT.t (ob_move rfl) ?_
  refine RT.t (ob_move rfl) ?_
  refine RT.t (ob_eql rfl rfl) ?_
  refine RT.t (ob_move rfl) ?_
  refine RT.g rfl rfl rfl (fun hg => ob_move (.inl rfl)) ?_
  refine RT.g rfl rfl rfl (fun hg => ob_move (.inl rfl)) ?_
  refine RT.g rfl rfl rfl (fun hg => ob_move (.inl rfl)) ?_
  refine RT.g rfl rfl rfl (fun hg => ob_invO (.inr ⟨_, rfl, fun h => h⟩) mLess (c_p_order_queue_Less dn da dl dcap U l qb z hls hG (by omega) hU hdn i ((i - 1) / 2) (by omega) (by omega)) (allIsQL (ls := l)) (fun _ h => h) ndQL (fun _ h => List.mem_cons_of_mem _ h) (.one (.inr ⟨_, rfl, fun h => h⟩) (.one (.inr ⟨_, rfl, fun h => h⟩) .nil))) ?_
  refine RT.g rfl rfl rfl (fun hg => ob_not (.inr ⟨_, rfl, fun h => h⟩)) ?_
  refine RT.t (ob_pickOr rfl rfl rfl id) ?_
  refine RT.nil ?_
  refine FinS.nil0 ?_
  repeat (first | refine JX.next ?_ | refine JX.normal_block ?_)
  refine J.sel [0, 1, 4, 17] (.cons rfl (.cons rfl (.cons rfl (.cons rfl .nil)))) ?_
  repeat refine J.seq ?_
  refine J.cond rfl (fun ht17 => ?_) (fun ht17 => ?_)
  ·
    try simp only [decide_eq_true_eq, decide_eq_false_iff_not] at ht17
    repeat refine J.seq ?_
    refine J.exit ?_
    repeat (first | refine JX.hit ?_ | refine JX.miss rfl ?_ | refine JX.exit_pass ?_)
    repeat (first | refine JX.next ?_ | refine JX.normal_block ?_)
    refine JX.normal_ret ?_
    exact JX.retL0 (Lr := []) (L1 := fun z => QL ty_order_queue ty_order_line qb (.slice da dl dcap) ls.length z) rfl z (by
        rw [← hs, upO_stop (by
          rintro ⟨h1, h2⟩
          rw [h2] at ht17
          simp at ht17
          omega)]
        exact hG) (by rw [List.append_nil, hl]) (ql_out _ _ _ _ _ _) hb0 rfl
  ·
    try simp only [decide_eq_true_eq, decide_eq_false_iff_not] at ht17
    refine J.skip ?_
    repeat (first | refine JX.next ?_ | refine JX.normal_block ?_)
    have hi0 : 0 < i := by
      rcases Nat.eq_zero_or_pos i with e | e
      · exfalso
        subst e
        simp at ht17
      · exact e
    repeat refine J.seq ?_
    refine J.plain ?_
    refine JO.t (ob_move rfl) rfl ?_
    refine JO.t (ob_move rfl) rfl ?_
    refine JO.t (ob_move rfl) rfl ?_
    refine JO.invL (Lr := []) rfl mSwap (c_p_order_queue_Swap dn da dl dcap U l qb z hG ((i - 1) / 2) i (by omega) (by omega) (by omega)) (fun d e => by injection e with e; show d < 23; omega) (by rw [List.append_nil]) (fun _ h => List.mem_cons_of_mem _ h) (.one rfl (.one rfl .nil)) ?_
    intro z1 hz1
    rw [List.append_nil, show l.length = (swp lv0 l ((i - 1) / 2) i).length from (swp_len _ _ _).symm]
    refine JO.nil ?_
    repeat (first | refine JX.next ?_ | refine JX.normal_block ?_)
    refine J.sel [0, 4] (.cons rfl (.cons rfl .nil)) ?_
    repeat refine J.seq ?_
    refine J.plain ?_
    refine JO.t (ob_move rfl) rfl ?_
    refine JO.t (ob_assign rfl) rfl ?_
    refine JO.nil ?_
    repeat refine JX.normal_block ?_
    refine JX.roundG (x := (i, l, z)) ((i - 1) / 2, swp lv0 l ((i - 1) / 2) i, z1) ?_ ?_ [0, 1] ?_ ?_ ?_ ?_
    · exact ⟨by show (i - 1) / 2 < ls.length; omega, by show (swp lv0 l _ _).length = _; rw [swp_len]; exact hl, fun p hp => hls p ((swp_perm (by omega) (by omega)).mem_iff.1 hp), hz1, by
    show upO dn (swp lv0 l ((i - 1) / 2) i) ((i - 1) / 2) = _
    simp only [Bool.or_eq_false_iff, beq_eq_false_iff_ne, Bool.not_eq_false'] at ht17
    rw [← hs]
    exact (upO_step (dn := dn) (l := l) (j := i) (by
      rcases Nat.eq_zero_or_pos i with e | e
      · exfalso
        subst e
        exact ht17.1 rfl
      · exact e) (by simpa using ht17.2)).symm⟩
    · exact (by show (i - 1) / 2 < i; omega)
    · exact (.cons rfl (.cons rfl .nil))
    · repeat (first | exact .all | exact .nil | refine Has.own (by repeat (first | exact .here | apply Tl.past | apply Tl.there)) ?_ | refine Has.cons (by repeat (first | exact .here | apply Pk.past | apply Pk.there)) ?_)
    · exact fun G hG => by repeat (first | exact hG | refine List.mem_cons_of_mem _ ?_)
    · exact fun _ _ _ => fun _ _ => trivial
end Go.Proofs.Ytgpikmonklainaa
