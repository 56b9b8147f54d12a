/- group: the law of keys. No condition. -/
import Derived.Test.YtgpikmonklainaaXGL4a
import Derived.Test.YtgpikmonklainaaXGL3
set_option maxRecDepth 20000
namespace Go.Proofs.Ytgpikmonklainaa
open Go Go.Vc
open Go.Vl Go.Od
theorem dK_more {vals D : List V3} (h : dK vals = D.map kR) : D.Nodup ∧ (∀ v ∈ vals, v ∈ D) ∧ ∀ i, 0 < i → i < D.length → rowsC [D.getD (i - 1) v3E] [D.getD i v3E] < 0 := by
  obtain ⟨h1, h2⟩ := dK_spec vals
  rw [h] at h1 h2
  rw [List.pairwise_map] at h1
  refine ⟨h1.imp fun {a b} hab e => ?_, fun v hv => ?_, fun i h0 hi => ?_⟩
  · rw [e, ordR.irr] at hab
    cases hab
  · obtain ⟨x, hx, e⟩ := List.mem_map.1 ((h2 [v]).2 ⟨v, hv, rfl⟩)
    rw [← (List.cons.inj e).1]; exact hx
  · have := List.pairwise_iff_getElem.1 h1 (i - 1) i (by omega) hi (by omega)
    rw [getD_lt hi, getD_lt (by omega)]
    exact of_decide_eq_true this
theorem dead6 {vals : List V3} {v : V3} {i : Nat} {p q : List V3} (hlt : 0 < i → rowsC p q < 0) (h : (((5 : Nat) : Int) != 5 || !veq v.k v.n v.s v.k v.n v.s || !veq v.k v.n v.s v.k v.n v.s || ((cntN vals v : Nat) : Int) != ((cnt vals v : Nat) : Int) && v.k != 0 || v.k == 0 && ((cntN vals v : Nat) : Int) != 0 || decide ((0 : Int) < (i : Nat)) && decide (0 ≤ rowsC p q)) = true) : False := by
  have hve : veq v.k v.n v.s v.k v.n v.s = true := by unfold veq; simp [seq_self]
  have hr : (decide ((0 : Int) < (i : Nat)) && decide (0 ≤ rowsC p q)) = false := by
    by_cases h0 : 0 < i
    · have := hlt h0
      rw [decide_eq_false (show ¬ 0 ≤ rowsC p q by omega), Bool.and_false]
    · rw [decide_eq_false (show ¬ (0 : Int) < (i : Nat) by omega), Bool.false_and]
  rw [hr, hve] at h
  by_cases h0 : v.k = 0
  · have hc : cntN vals v = 0 := by unfold cntN; rw [if_pos h0]
    simp [h0, hc] at h
  · have hc : cntN vals v = cnt vals v := by unfold cntN; rw [if_neg h0]
    simp [h0, hc] at h
theorem Sub.rvTake {L : List Own} {Φ : List (World → Prop)} {ps : List RV} {p : RV} (n : Nat) (hp : p ∈ ps) (hF : RVF ps ∈ Φ) (hn : n ≤ p.len) : Sub L Φ (.is (.slice p.a n p.cap)) (.rep (RowS (p.row.take n))) := fun E v w hf e => by
  rw [show v = _ from e]
  exact fun w' hk => ⟨p.a, n, p.cap, rfl, row_take (hf.2 _ hF w' hk p hp).2 hn⟩
theorem sum_le : ∀ (l : List Nat) (i : Nat), (l.take i).sum ≤ l.sum
  | [], _ => by simp
  | x :: l, 0 => by simp
  | x :: l, i + 1 => by
    have := sum_le l i
    simp only [List.take_succ_cons, List.sum_cons]
    omega
theorem len_sum : ∀ {l : List Nat}, (∀ x ∈ l, 0 < x) → l.length ≤ l.sum
  | [], _ => Nat.le_refl _
  | x :: l, h => by
    have h1 := len_sum (l := l) fun y hy => h y (List.mem_cons_of_mem _ hy)
    have h2 := h x List.mem_cons_self
    simp only [List.length_cons, List.sum_cons]
    omega
theorem sum_step {l : List Nat} {i : Nat} (h : i < l.length) : (l.take (i + 1)).sum = (l.take i).sum + l.getD i 0 := by
  rw [List.take_add_one, getD_some (d := 0) h, Option.toList_some, List.sum_append]
  simp
set_option maxHeartbeats 1000000 in
theorem c_law16_GroupKeys (vals : List V3) (hn : vals.length ≤ 1048575) (hv : ∀ v ∈ vals, v.rng) : CallTy Try.prog f_law16_GroupKeys [.rep (RowS vals)] (.is (.bool true)) :=
  CallTy.of (fn := Try.f8) Try.func8 (n := 149) rfl rfl rfl (fun _ _ => by kernel_rfl) fun E W => by
  refine J.openSl (enc := V3.cells) (sz := 3) (s := 0) rfl (fun a len cap b o hlen ha => ?_)
  subst hlen
  repeat refine J.seq ?_
  refine J.plain ?_
  refine JO.t (ob_assign rfl) rfl ?_
  refine JO.nil ?_
  repeat (first | refine JX.next ?_ | refine JX.normal_block ?_)
  refine J.sel [0] (.cons rfl .nil) ?_
  repeat refine J.seq ?_
  refine J.plain ?_
  refine JO.t (ob_call rfl c_law16_awake .nil) rfl ?_
  refine JO.t (ob_not rfl) rfl ?_
  refine JO.nil ?_
  repeat (first | refine JX.next ?_ | refine JX.normal_block ?_)
  refine J.sel [0, 12] (.cons rfl (.cons rfl .nil)) ?_
  repeat refine J.seq ?_
  refine J.cond rfl (fun ht12 => ?_) (fun ht12 => ?_)
  ·
    try simp only [decide_eq_true_eq, decide_eq_false_iff_not] at ht12
    exfalso
    simp at ht12
  ·
    try simp only [decide_eq_true_eq, decide_eq_false_iff_not] at ht12
    refine J.skip ?_
    repeat (first | refine JX.next ?_ | refine JX.normal_block ?_)
    repeat refine J.seq ?_
    refine J.plain ?_
    refine JO.t (ob_assign rfl) rfl ?_
    refine JO.nil ?_
    repeat (first | refine JX.next ?_ | refine JX.normal_block ?_)
    refine J.sel [0, 3] (.cons rfl (.cons rfl .nil)) ?_
    repeat refine J.seq ?_
    refine J.plain ?_
    refine JO.t (ob_assign rfl) rfl ?_
    refine JO.nil ?_
    repeat (first | refine JX.next ?_ | refine JX.normal_block ?_)
    refine J.sel [0, 3, 4] (.cons rfl (.cons rfl (.cons rfl .nil))) ?_
    repeat refine J.seq ?_
    refine J.plain ?_
    refine JO.t (ob_assign rfl) rfl ?_
    refine JO.nil ?_
    repeat (first | refine JX.next ?_ | refine JX.normal_block ?_)
    refine J.sel [0, 3, 4, 5] (.cons rfl (.cons rfl (.cons rfl (.cons rfl .nil)))) ?_
    repeat refine J.seq ?_
    refine J.block ?_
    repeat refine J.seq ?_
    refine J.loopG (α := List RV × Option (Nat × List Value) × Nat × List RV × Option (Nat × List Value) × Nat) (fun y => [(0, .is (.slice a vals.length cap)), (3, .is (sliceO y.2.1 y.1.length y.2.2.1)), (4, .is (sliceO y.2.2.2.2.1 y.2.2.2.1.length y.2.2.2.2.2)), (5, .is (.int .i64 (y.1.length : Nat)))]) (fun y => ownO y.2.1 ty_sl_api_Value (ownO y.2.2.2.2.1 ty_sl_api_Value [])) (fun y => fun w => RVF y.1 w ∧ RVF y.2.2.2.1 w) (fun y => Grows RV.c 1 y.1 y.2.1 y.2.2.1 ∧ Grows RV.c 1 y.2.2.2.1 y.2.2.2.2.1 y.2.2.2.2.2 ∧ y.1.length ≤ vals.length ∧ y.1.map RV.row = (vals.take y.1.length).map kR ∧ y.2.2.2.1.map RV.row = (vals.take y.1.length).map aR ∧ y.2.2.2.1.length = y.1.length) (fun y => vals.length - y.1.length) ([], none, 0, [], none, 0) [0, 3, 4, 5] (.cons rfl (.cons rfl (.cons rfl (.cons rfl .nil)))) rfl (fun _ => ⟨fun p hp => absurd hp List.not_mem_nil, fun p hp => absurd hp List.not_mem_nil⟩) ⟨rfl, rfl, Nat.zero_le _, rfl, rfl, rfl⟩ fun ⟨lp, st3, cp3, aq, st4, cp4⟩ ⟨hG3, hG4, hol, hor, hoq, hqn⟩ => ?_
    try dsimp only
    try dsimp only at st3
    try dsimp only at cp3
    try dsimp only at aq
    try dsimp only at st4
    try dsimp only at cp4
    try dsimp only at hG3
    try dsimp only at hG4
    try dsimp only at hol
    try dsimp only at hor
    try dsimp only at hoq
    try dsimp only at hqn
    repeat refine J.seq ?_
    refine J.plain ?_
    refine JO.t (ob_move rfl) rfl ?_
    refine JO.t (ob_move rfl) rfl ?_
    refine JO.t (ob_len un_sl_api_Value rfl) rfl ?_
    refine JO.t (ob_lss rfl rfl) rfl ?_
    refine JO.nil ?_
    repeat (first | refine JX.next ?_ | refine JX.normal_block ?_)
    refine J.sel [0, 3, 4, 5, 16] (.cons rfl (.cons rfl (.cons rfl (.cons rfl (.cons rfl .nil))))) ?_
    repeat refine J.seq ?_
    refine J.cond rfl (fun ht16 => ?_) (fun ht16 => ?_)
    ·
      try simp only [decide_eq_true_eq, decide_eq_false_iff_not] at ht16
      refine J.skip ?_
      repeat (first | refine JX.next ?_ | refine JX.normal_block ?_)
      repeat refine J.seq ?_
      refine J.block ?_
      repeat refine J.seq ?_
      refine J.plain ?_
      refine JO.t (ob_move rfl) rfl ?_
      refine JO.t (ob_move rfl) rfl ?_
      refine JO.t (ob_move rfl) rfl ?_
      refine JO.t (ob_indexAddr el_sl_api_Value rfl (ha (by omega)) rfl (by omega) (by omega)) rfl ?_
      refine JO.t (ob_loadG (enc := V3.cells) (sz := 3) (i := lp.length) (y := vals.getD lp.length v3E) (cs := V3.cells (vals.getD lp.length v3E)) sz_api_Value rfl (by repeat (first | exact List.mem_cons_self | apply List.mem_cons_of_mem)) (ha (by omega)) (v3_get (by omega)) (by omega) rfl) rfl ?_
      refine JO.t (ob_buildSlice (cs := [_, _, _]) sl_sl_api_Value (by omega) (by omega) (.cons rfl .nil) rfl rfl rfl) rfl ?_
      refine JO.t (ob_bRows1 (r0 := kR (vals.getD lp.length v3E)) sl_sl_sl_api_Value rfl (Sub.newSlC v3_len rfl rfl (Nat.le_refl _))) rfl ?_
      refine JO.openRows (s := 25) rfl (fun p1 a1 l1 c1 b1 o1 hm1 hl1 hc1 ha1 => ?_)
      have hp1 : p1.length = 1 := by rw [← List.length_map (f := RV.row), hm1]; rfl
      refine JO.apX p1 ap_sl_sl_api_Value RV.c_len (by repeat (first | exact .here | apply Cx.past | apply Cx.there)) hG3 rfl rfl (fun L => src_slF RV.c_len (by omega) RV.c_one un_sl_sl_api_Value (by repeat (first | exact List.mem_cons_self | apply List.mem_cons_of_mem))) (.inr (fun h => by rw [h] at hp1; cases hp1)) (by omega) (by omega) rfl (fun st5 cp5 hG5 => ?_)
      try dsimp only
      refine JO.t (ob_assign rfl) rfl ?_
      refine JO.nil ?_
      repeat (first | refine JX.next ?_ | refine JX.normal_block ?_)
      refine J.sel [0, 3, 4, 5] (.cons rfl (.cons rfl (.cons rfl (.cons rfl .nil)))) ?_
      repeat refine J.seq ?_
      refine J.regS 16 hmx (by kernel_rfl) (by kernel_rfl) ?_
      refine RT.t (ob_move rfl) ?_
      refine RT.t (ob_move rfl) ?_
      refine RT.t (ob_move rfl) ?_
      refine RT.t (ob_indexAddr el_sl_api_Value rfl (ha (by omega)) rfl (by omega) (by omega)) ?_
      refine RT.t (ob_loadG (enc := V3.cells) (sz := 3) (i := lp.length) (y := vals.getD lp.length v3E) (cs := V3.cells (vals.getD lp.length v3E)) sz_api_Value rfl (by repeat (first | exact List.mem_cons_self | apply List.mem_cons_of_mem)) (ha (by omega)) (v3_get (by omega)) (by omega) rfl) ?_
      refine RT.t (ob_move rfl) ?_
      refine RT.t (ob_move rfl) ?_
      refine RT.t (ob_indexAddr el_sl_api_Value rfl (ha (by omega)) rfl (by omega) (by omega)) ?_
      refine RT.t (ob_loadG (enc := V3.cells) (sz := 3) (i := lp.length) (y := vals.getD lp.length v3E) (cs := V3.cells (vals.getD lp.length v3E)) sz_api_Value rfl (by repeat (first | exact List.mem_cons_self | apply List.mem_cons_of_mem)) (ha (by omega)) (v3_get (by omega)) (by omega) rfl) ?_
      refine RT.t (ob_move rfl) ?_
      refine RT.t (ob_move rfl) ?_
      refine RT.t (ob_indexAddr el_sl_api_Value rfl (ha (by omega)) rfl (by omega) (by omega)) ?_
      refine RT.t (ob_loadG (enc := V3.cells) (sz := 3) (i := lp.length) (y := vals.getD lp.length v3E) (cs := V3.cells (vals.getD lp.length v3E)) sz_api_Value rfl (by repeat (first | exact List.mem_cons_self | apply List.mem_cons_of_mem)) (ha (by omega)) (v3_get (by omega)) (by omega) rfl) ?_
      refine RT.t (ob_call rfl (c_law16_num 1) (.one rfl .nil)) ?_
      refine RT.t (ob_buildSlice (cs := [_, _, _, _, _, _, _, _, _, _, _, _]) sl_sl_api_Value (by omega) (by omega) (.cons rfl (.cons rfl (.cons rfl (.cons rfl .nil)))) rfl rfl rfl) ?_
      refine RT.t (ob_bRows1 (r0 := aR (vals.getD lp.length v3E)) sl_sl_sl_api_Value rfl (Sub.newSlC v3_len rfl rfl (Nat.le_refl _))) ?_
      refine RT.nil ?_
      refine FinS.tail0 ?_
      refine JO.openRows (s := 42) rfl (fun q1 a2 l2 c2 b2 o2 hm2 hl2 hc2 ha2 => ?_)
      have hq1 : q1.length = 1 := by rw [← List.length_map (f := RV.row), hm2]; rfl
      refine JO.apX q1 ap_sl_sl_api_Value RV.c_len (by repeat (first | exact .here | apply Cx.past | apply Cx.there)) hG4 rfl rfl (fun L => src_slF RV.c_len (by omega) RV.c_one un_sl_sl_api_Value (by repeat (first | exact List.mem_cons_self | apply List.mem_cons_of_mem))) (.inr (fun h => by rw [h] at hq1; cases hq1)) (by omega) (by omega) rfl (fun st6 cp6 hG6 => ?_)
      try dsimp only
      refine JO.t (ob_assign rfl) rfl ?_
      refine JO.nil ?_
      repeat (first | refine JX.next ?_ | refine JX.normal_block ?_)
      refine J.sel [0, 3, 4, 5] (.cons rfl (.cons rfl (.cons rfl (.cons rfl .nil)))) ?_
      repeat refine J.seq ?_
      refine J.plain ?_
      refine JO.t (ob_move rfl) rfl ?_
      refine JO.t (ob_addc (cc := (((lp ++ p1).length : Nat) : Int)) rfl rfl (by rw [List.length_append]; omega) (by omega) (by rw [List.length_append]; omega)) rfl ?_
      refine JO.t (ob_assign rfl) rfl ?_
      refine JO.nil ?_
      repeat refine JX.normal_block ?_
      refine JX.roundG (x := (lp, st3, cp3, aq, st4, cp4)) (lp ++ p1, st5, cp5, aq ++ q1, st6, cp6) ?_ ?_ [0, 3, 4, 5] ?_ ?_ ?_ ?_
      · exact ⟨hG5, hG6, by show (lp ++ p1).length ≤ _; rw [List.length_append]; omega, by
    show (lp ++ p1).map RV.row = (vals.take (lp ++ p1).length).map kR
    rw [List.map_append, List.length_append, hp1, take_snocV (by omega), hor, hm1, List.map_append]
    rfl, by
    show (aq ++ q1).map RV.row = (vals.take (lp ++ p1).length).map aR
    rw [List.map_append, List.length_append, hp1, take_snocV (by omega), hoq, hm2, List.map_append]
    rfl, by show (aq ++ q1).length = (lp ++ p1).length; rw [List.length_append, List.length_append]; omega⟩
      · exact (by show vals.length - (lp ++ p1).length < vals.length - lp.length; rw [List.length_append]; omega)
      · exact (.cons rfl (.cons rfl (.cons rfl (.cons rfl .nil))))
      · repeat (first | exact .all | exact .nil | refine Has.own (by repeat (first | exact .here | apply Tl.past | apply Tl.there)) ?_ | refine Has.cons (by repeat (first | exact .here | apply Pk.past | apply Pk.there)) ?_)
      · exact fun G hG => by repeat (first | exact hG | refine List.mem_cons_of_mem _ ?_)
      · exact fun E w hF => fun w2 hk2 => ⟨fun q hq => (List.mem_append.1 hq).elim (fun h => (hF (fun w => RVF lp w ∧ RVF aq w) (by repeat (first | exact List.mem_cons_self | apply List.mem_cons_of_mem)) w2 hk2).1 q h) (fun h => hF (RVF p1) (by repeat (first | exact List.mem_cons_self | apply List.mem_cons_of_mem)) w2 hk2 q h), fun q hq => (List.mem_append.1 hq).elim (fun h => (hF (fun w => RVF lp w ∧ RVF aq w) (by repeat (first | exact List.mem_cons_self | apply List.mem_cons_of_mem)) w2 hk2).2 q h) (fun h => hF (RVF q1) (by repeat (first | exact List.mem_cons_self | apply List.mem_cons_of_mem)) w2 hk2 q h)⟩
    ·
      try simp only [decide_eq_true_eq, decide_eq_false_iff_not] at ht16
      repeat refine J.seq ?_
      refine J.exit ?_
      repeat (first | refine JX.hit ?_ | refine JX.miss rfl ?_ | refine JX.exit_pass ?_)
      repeat (first | refine JX.next ?_ | refine JX.normal_block ?_)
      have hol2 : lp.length = vals.length := by omega
      rw [hol2, List.take_length] at hor hoq
      refine J.freezeO RV.c_len hG3 (e := ty_sl_api_Value) (by repeat (first | exact .here | apply Tl.past | apply Tl.there)) (fun _ h => h) rfl (is_out (ownO_is _ _ rfl)) ?_
      refine J.freezeO RV.c_len hG4 (e := ty_sl_api_Value) (by repeat (first | exact .here | apply Tl.past | apply Tl.there)) (fun _ h => h) rfl rfl ?_
      refine J.fact (RVF lp) (fun E w hG _ => fun w2 hk => (hG (fun w => RVF lp w ∧ RVF aq w) (by repeat (first | exact List.mem_cons_self | apply List.mem_cons_of_mem)) w2 hk).1) ?_
      refine J.fact (RVF aq) (fun E w hG _ => fun w2 hk => (hG (fun w => RVF lp w ∧ RVF aq w) (by repeat (first | exact List.mem_cons_self | apply List.mem_cons_of_mem)) w2 hk).2) ?_
      have hwa : ∀ r ∈ vals.map aR, r.length ≤ 1048576 := fun r hr => by
        obtain ⟨x, _, rfl⟩ := List.mem_map.1 hr
        exact Nat.le_of_ble_eq_true rfl
      have hwk : ∀ r ∈ vals.map kR, r.length ≤ 1048576 := fun r hr => by
        obtain ⟨x, _, rfl⟩ := List.mem_map.1 hr
        exact Nat.le_of_ble_eq_true rfl
      have hwr : ∀ r ∈ vals.map aR, ∀ v ∈ r, I64 v.n := fun r hr v hv2 => by
        obtain ⟨x, hx, rfl⟩ := List.mem_map.1 hr
        simp only [List.mem_cons, List.not_mem_nil, or_false] at hv2
        rcases hv2 with rfl | rfl | rfl | rfl
        · exact (hv _ hx).2
        · exact (hv _ hx).2
        · exact (hv _ hx).2
        · exact ⟨by decide, by decide⟩
      repeat refine J.seq ?_
      refine J.plain ?_
      refine JO.t (ob_move rfl) rfl ?_
      refine JO.t (ob_move rfl) rfl ?_
      refine JO.t (ob_buildSlice (cs := [_, _, _, _]) sl_sl_int (by omega) (by omega) (.cons rfl (.cons rfl (.cons rfl (.cons rfl .nil)))) rfl rfl rfl) rfl ?_
      refine JO.t (ob_call rfl (c_group_Rows (vals.map kR) (vals.map aR) kd6 false (by rw [List.length_map]; omega) (by rw [List.length_map]; omega) hwa hwk (Nat.le_of_ble_eq_true rfl) hwr) (.sub rfl (Sub.rowsO hG3 (by repeat (first | exact List.mem_cons_self | apply List.mem_cons_of_mem)) (rps := lp) (by repeat (first | exact List.mem_cons_self | apply List.mem_cons_of_mem)) (fun _ h => h) hor) (.sub rfl (Sub.rowsO hG4 (by repeat (first | exact List.mem_cons_self | apply List.mem_cons_of_mem)) (rps := aq) (by repeat (first | exact List.mem_cons_self | apply List.mem_cons_of_mem)) (fun _ h => h) hoq) (.sub rfl (Sub.newSlG kC_len rfl rfl) (.one rfl .nil))))) rfl ?_
      refine JO.t (ob_move rfl) rfl ?_
      refine JO.t (ob_extract0 rfl) rfl ?_
      refine JO.t (ob_extract1 rfl) rfl ?_
      refine JO.t (ob_assign rfl) rfl ?_
      refine JO.t (ob_assign rfl) rfl ?_
      refine JO.nil ?_
      repeat (first | refine JX.next ?_ | refine JX.normal_block ?_)
      refine J.sel [0, 6, 7] (.cons rfl (.cons rfl (.cons rfl .nil))) ?_
      repeat refine J.seq ?_
      refine J.plain ?_
      refine JO.t (ob_move rfl) rfl ?_
      refine JO.t (ob_neq rfl rfl) rfl ?_
      refine JO.nil ?_
      repeat (first | refine JX.next ?_ | refine JX.normal_block ?_)
      refine J.sel [0, 6, 7, 52] (.cons rfl (.cons rfl (.cons rfl (.cons rfl .nil)))) ?_
      repeat refine J.seq ?_
      refine J.cond rfl (fun ht52 => ?_) (fun ht52 => ?_)
      ·
        try simp only [decide_eq_true_eq, decide_eq_false_iff_not] at ht52
        have hbad : grpO (vals.map kR) (vals.map aR) kd6 false = ([], 1) := by
          cases hall : vals.all okV with
          | false => exact chk6_bad hall
          | true =>
            obtain ⟨D, _, _, hDe⟩ := grp6 hall (by omega)
            rw [hDe] at ht52
            cases ht52
        repeat refine J.seq ?_
        refine J.reg0 hmx (by kernel_rfl) (by kernel_rfl) ?_
        refine RT.t (ob_move rfl) ?_
        refine RT.t (ob_eql rfl rfl) ?_
        refine RT.t (ob_move rfl) ?_
        refine RT.g rfl rfl rfl (fun hg => ob_move (.inl rfl)) ?_
        refine RT.g rfl rfl rfl (fun hg => ob_lenRows un_sl_sl_api_Value (.inr ⟨_, rfl, fun h => h⟩)) ?_
        refine RT.g rfl rfl rfl (fun hg => ob_eql (.inr ⟨_, rfl, fun h => h⟩) (.inl rfl)) ?_
        refine RT.t (ob_pickAnd rfl rfl rfl id) ?_
        refine RT.t (ob_assign rfl) ?_
        refine RT.nil ?_
        refine FinS.nil0 ?_
        repeat (first | refine JX.next ?_ | refine JX.normal_block ?_)
        refine J.sel [2] (.cons rfl .nil) ?_
        repeat refine J.seq ?_
        refine J.ret ?_
        repeat (first | refine JX.ret_pass ?_ | refine JX.ret_block ?_)
        exact JX.ret1is rfl rfl (by rw [hbad]; rfl)
      ·
        try simp only [decide_eq_true_eq, decide_eq_false_iff_not] at ht52
        refine J.skip ?_
        repeat (first | refine JX.next ?_ | refine JX.normal_block ?_)
        obtain ⟨D, hD1, hD2, hDe⟩ : ∃ D : List V3, dK vals = D.map kR ∧ (∀ v ∈ D, v ∈ vals) ∧ grpO (vals.map kR) (vals.map aR) kd6 false = (D.map (rowK vals), 0) := by
          cases hall : vals.all okV with
          | false =>
            rw [chk6_bad hall] at ht52
            cases ht52
          | true => exact grp6 hall (by omega)
        obtain ⟨hD3, hD4, hD5⟩ := dK_more hD1
        have hsum := cnt_all D vals hD3 hD4
        rw [hDe]
        dsimp only
        refine J.openRows (s := 6) rfl (fun ps pa pl pc pb po hpm hpl hpc hpa => ?_)
        subst hpl
        have hpD : ps.length = D.length := by rw [← List.length_map (f := RV.row), hpm, List.length_map]
        refine J.know (∀ p ∈ ps, p.row.length = p.len ∧ p.len ≤ p.cap) (fun E w hG _ => fun p hp => ⟨((hG (RVF ps) (by repeat (first | exact List.mem_cons_self | apply List.mem_cons_of_mem))).now p hp).2.1, ((hG (RVF ps) (by repeat (first | exact List.mem_cons_self | apply List.mem_cons_of_mem))).now p hp).1⟩) (fun hkn => ?_)
        have hrw : ∀ j, j < ps.length → (ps.getD j rv0).row = rowK vals (D.getD j v3E) := fun j hj => by
          rw [← rowD hj, hpm, getD_lt (by rw [List.length_map]; omega), List.getElem_map, getD_lt (by omega)]
        have hl5 : ∀ j, j < ps.length → (ps.getD j rv0).len = 5 := fun j hj => by
          rw [← (hkn _ (getD_mem hj)).1, hrw j hj]; rfl
        have hcp : ∀ j, j < ps.length → (1 : Int) ≤ ((ps.getD j rv0).cap : Nat) := fun j hj => by
          have h1 := hl5 j hj
          have h2 := (hkn _ (getD_mem (d := rv0) hj)).2
          omega
        have hln : ∀ j, j < ps.length → 1 ≤ (ps.getD j rv0).len := fun j hj => by rw [hl5 j hj]; decide
        have hpn : ps.length ≤ 1048575 := by
          have h1 : (D.map (cnt vals)).length ≤ (D.map (cnt vals)).sum := len_sum fun x hx => by
            obtain ⟨v, h2, rfl⟩ := List.mem_map.1 hx
            exact cnt_pos (hD2 v h2)
          rw [List.length_map] at h1
          omega
        repeat refine J.seq ?_
        refine J.plain ?_
        refine JO.t (ob_assign rfl) rfl ?_
        refine JO.nil ?_
        repeat (first | refine JX.next ?_ | refine JX.normal_block ?_)
        refine J.sel [0, 6, 8] (.cons rfl (.cons rfl (.cons rfl .nil))) ?_
        repeat refine J.seq ?_
        refine J.plain ?_
        refine JO.t (ob_assign rfl) rfl ?_
        refine JO.nil ?_
        repeat (first | refine JX.next ?_ | refine JX.normal_block ?_)
        refine J.sel [0, 6, 8, 9] (.cons rfl (.cons rfl (.cons rfl (.cons rfl .nil)))) ?_
        repeat refine J.seq ?_
        refine J.block ?_
        repeat refine J.seq ?_
        refine J.loopF (α := Nat) (fun i => [(0, .is (.slice a vals.length cap)), (6, .is (.slice pa ps.length pc)), (8, .is (.int .i64 (((((D.map (cnt vals)).take i).sum : Nat) : Int)))), (9, .is (.int .i64 (i : Nat)))]) (fun i => i ≤ ps.length) (fun i => ps.length - i) 0 [0, 6, 8, 9] (.cons rfl (.cons rfl (.cons rfl (.cons rfl .nil)))) (Nat.zero_le _) fun i hi => ?_
        repeat refine J.seq ?_
        refine J.plain ?_
        refine JO.t (ob_move rfl) rfl ?_
        refine JO.t (ob_move rfl) rfl ?_
        refine JO.t (ob_len un_sl_sl_api_Value rfl) rfl ?_
        refine JO.t (ob_lss rfl rfl) rfl ?_
        refine JO.nil ?_
        repeat (first | refine JX.next ?_ | refine JX.normal_block ?_)
        refine J.sel [0, 6, 8, 9, 63] (.cons rfl (.cons rfl (.cons rfl (.cons rfl (.cons rfl .nil))))) ?_
        repeat refine J.seq ?_
        refine J.cond rfl (fun ht63 => ?_) (fun ht63 => ?_)
        ·
          try simp only [decide_eq_true_eq, decide_eq_false_iff_not] at ht63
          refine J.skip ?_
          repeat (first | refine JX.next ?_ | refine JX.normal_block ?_)
          repeat refine J.seq ?_
          refine J.block ?_
          repeat refine J.seq ?_
          refine J.plain ?_
          refine JO.t (ob_move rfl) rfl ?_
          refine JO.t (ob_move rfl) rfl ?_
          refine JO.t (ob_indexAddr el_sl_sl_api_Value rfl (hpa (by omega)) rfl (by omega) (by omega)) rfl ?_
          refine JO.t (ob_loadG1 (enc := RV.c) (sz := 1) (i := i) (j := 0) (y := ps.getD (i) rv0) (u := (ps.getD (i) rv0).v) sz_sl_api_Value rfl (by repeat (first | exact List.mem_cons_self | apply List.mem_cons_of_mem)) (hpa (by omega)) (getD_some (by omega)) (by omega) rfl) rfl ?_
          refine JO.t (ob_assign rfl) rfl ?_
          refine JO.nil ?_
          repeat (first | refine JX.next ?_ | refine JX.normal_block ?_)
          refine J.sel [0, 6, 8, 9, 10] (.cons rfl (.cons rfl (.cons rfl (.cons rfl (.cons rfl .nil))))) ?_
          obtain ⟨v, hvd⟩ : ∃ v, v = D.getD i v3E := ⟨_, rfl⟩
          have hip : i < ps.length := by omega
          have hrv := hrw i hip
          rw [← hvd] at hrv
          have hci : (D.map (cnt vals)).getD i 0 = cnt vals v := by rw [getD_lt (by rw [List.length_map]; omega), List.getElem_map, hvd, getD_lt (by omega)]
          refine J.fact (RowG V3.cells 3 (rowK vals v) (ps.getD i rv0).a 5) (fun E w hG _ => fun w2 hk => by
            have h := (hG (RVF ps) (by repeat (first | exact List.mem_cons_self | apply List.mem_cons_of_mem)) w2 hk _ (getD_mem (d := rv0) hip)).2
            rw [hrv, hl5 i hip] at h
            exact h) ?_
          refine J.knG List.mem_cons_self (fun rb ro _ hra => ?_)
          refine J.coer (s := 10) (T' := .is (.slice (ps.getD i rv0).a 5 (ps.getD i rv0).cap)) rfl (Sub.isEq (by show Value.slice _ _ _ = _; rw [hl5 i hip])) ?_
          have hlt : 0 < i → rowsC ((ps.getD (i - 1) rv0).row.take 1) ((ps.getD i rv0).row.take 1) < 0 := fun h0 => by
            rw [hrw (i - 1) (by omega), hrw i hip]
            exact hD5 i h0 (by omega)
          repeat refine J.seq ?_
          refine J.reg0 hmx (by kernel_rfl) (by kernel_rfl) ?_
          refine RT.t (ob_move rfl) ?_
          refine RT.t (ob_len un_sl_api_Value rfl) ?_
          refine RT.t (ob_neq rfl rfl) ?_
          refine RT.t (ob_move rfl) ?_
          refine RT.g rfl rfl rfl (fun hg => ob_move (.inl rfl)) ?_
          refine RT.g rfl rfl rfl (fun hg => ob_indexAddr el_sl_api_Value (.inr ⟨_, rfl, fun h => h⟩) (hra (by decide)) (.inl rfl) (by omega) (by omega)) ?_
          refine RT.g rfl rfl rfl (fun hg => ob_loadG (enc := V3.cells) (sz := 3) (i := 1) (y := v) (cs := V3.cells (v)) sz_api_Value (.inr ⟨_, rfl, fun h => h⟩) (by repeat (first | exact List.mem_cons_self | apply List.mem_cons_of_mem)) (hra (by decide)) rfl (by omega) rfl) ?_
          refine RT.g rfl rfl rfl (fun hg => ob_move (.inl rfl)) ?_
          refine RT.g rfl rfl rfl (fun hg => ob_indexAddr el_sl_api_Value (.inr ⟨_, rfl, fun h => h⟩) (hra (by decide)) (.inl rfl) (by omega) (by omega)) ?_
          refine RT.g rfl rfl rfl (fun hg => ob_loadG (enc := V3.cells) (sz := 3) (i := 0) (y := v) (cs := V3.cells (v)) sz_api_Value (.inr ⟨_, rfl, fun h => h⟩) (by repeat (first | exact List.mem_cons_self | apply List.mem_cons_of_mem)) (hra (by decide)) rfl (by omega) rfl) ?_
          refine RT.g rfl rfl rfl (fun hg => ob_vneq veq_api_Value (.inr ⟨_, rfl, fun h => h⟩) (.inr ⟨_, rfl, fun h => h⟩)) ?_
          refine RT.t (ob_pickOr rfl rfl rfl id) ?_
          refine RT.t (ob_move rfl) ?_
          refine RT.g rfl rfl rfl (fun hg => ob_move (.inl rfl)) ?_
          refine RT.g rfl rfl rfl (fun hg => ob_indexAddr el_sl_api_Value (.inr ⟨_, rfl, fun h => h⟩) (hra (by decide)) (.inl rfl) (by omega) (by omega)) ?_
          refine RT.g rfl rfl rfl (fun hg => ob_loadG (enc := V3.cells) (sz := 3) (i := 2) (y := v) (cs := V3.cells (v)) sz_api_Value (.inr ⟨_, rfl, fun h => h⟩) (by repeat (first | exact List.mem_cons_self | apply List.mem_cons_of_mem)) (hra (by decide)) rfl (by omega) rfl) ?_
          refine RT.g rfl rfl rfl (fun hg => ob_move (.inl rfl)) ?_
          refine RT.g rfl rfl rfl (fun hg => ob_indexAddr el_sl_api_Value (.inr ⟨_, rfl, fun h => h⟩) (hra (by decide)) (.inl rfl) (by omega) (by omega)) ?_
          refine RT.g rfl rfl rfl (fun hg => ob_loadG (enc := V3.cells) (sz := 3) (i := 0) (y := v) (cs := V3.cells (v)) sz_api_Value (.inr ⟨_, rfl, fun h => h⟩) (by repeat (first | exact List.mem_cons_self | apply List.mem_cons_of_mem)) (hra (by decide)) rfl (by omega) rfl) ?_
          refine RT.g rfl rfl rfl (fun hg => ob_vneq veq_api_Value (.inr ⟨_, rfl, fun h => h⟩) (.inr ⟨_, rfl, fun h => h⟩)) ?_
          refine RT.t (ob_pickOr rfl rfl rfl id) ?_
          refine RT.t (ob_move rfl) ?_
          refine RT.g rfl rfl rfl (fun hg => ob_move (.inl rfl)) ?_
          refine RT.g rfl rfl rfl (fun hg => ob_indexAddr el_sl_api_Value (.inr ⟨_, rfl, fun h => h⟩) (hra (by decide)) (.inl rfl) (by omega) (by omega)) ?_
          refine RT.g rfl rfl rfl (fun hg => ob_fieldAddr fo_api_Value_1 (.inr ⟨_, rfl, fun h => h⟩)) ?_
          refine RT.g rfl rfl rfl (fun hg => ob_loadG1 (enc := V3.cells) (sz := 3) (i := 3) (j := 1) (y := nV (cntN vals v)) (u := .int .i64 ((cntN vals v : Nat) : Int)) sz_int64 (.inr ⟨_, rfl, fun h => h⟩) (by repeat (first | exact List.mem_cons_self | apply List.mem_cons_of_mem)) (hra (by decide)) rfl (by omega) rfl) ?_
          refine RT.g rfl rfl rfl (fun hg => ob_move (.inl rfl)) ?_
          refine RT.g rfl rfl rfl (fun hg => ob_indexAddr el_sl_api_Value (.inr ⟨_, rfl, fun h => h⟩) (hra (by decide)) (.inl rfl) (by omega) (by omega)) ?_
          refine RT.g rfl rfl rfl (fun hg => ob_fieldAddr fo_api_Value_1 (.inr ⟨_, rfl, fun h => h⟩)) ?_
          refine RT.g rfl rfl rfl (fun hg => ob_loadG1 (enc := V3.cells) (sz := 3) (i := 4) (j := 1) (y := nV (cnt vals v)) (u := .int .i64 ((cnt vals v : Nat) : Int)) sz_int64 (.inr ⟨_, rfl, fun h => h⟩) (by repeat (first | exact List.mem_cons_self | apply List.mem_cons_of_mem)) (hra (by decide)) rfl (by omega) rfl) ?_
          refine RT.g rfl rfl rfl (fun hg => ob_neq (.inr ⟨_, rfl, fun h => h⟩) (.inr ⟨_, rfl, fun h => h⟩)) ?_
          refine RT.g rfl rfl rfl (fun hg => ob_move (.inr ⟨_, rfl, fun h => h⟩)) ?_
          refine RT.gg rfl rfl rfl (fun hg => (ob_move (.inl rfl))) ?_
          refine RT.gg rfl rfl rfl (fun hg => (ob_indexAddr el_sl_api_Value (.inr ⟨_, rfl, fun h => h⟩) (hra (by decide)) (.inl rfl) (by omega) (by omega))) ?_
          refine RT.gg rfl rfl rfl (fun hg => (ob_fieldAddr fo_api_Value_0 (.inr ⟨_, rfl, fun h => h⟩))) ?_
          refine RT.gg rfl rfl rfl (fun hg => (ob_loadG1 (enc := V3.cells) (sz := 3) (i := 0) (j := 0) (y := v) (u := .int .i64 (v).k) sz_int (.inr ⟨_, rfl, fun h => h⟩) (by repeat (first | exact List.mem_cons_self | apply List.mem_cons_of_mem)) (hra (by decide)) rfl (by omega) rfl)) ?_
          refine RT.gg rfl rfl rfl (fun hg => (ob_neq (.inr ⟨_, rfl, fun h => h⟩) (.inl rfl))) ?_
          refine RT.g rfl rfl rfl (fun hg => ob_pickAnd (.inr ⟨_, rfl, fun h => h⟩) (.inl rfl) (.inl rfl) (fun h => ⟨hg, h⟩)) ?_
          refine RT.t (ob_pickOr rfl rfl rfl id) ?_
          refine RT.t (ob_move rfl) ?_
          refine RT.g rfl rfl rfl (fun hg => ob_move (.inl rfl)) ?_
          refine RT.g rfl rfl rfl (fun hg => ob_indexAddr el_sl_api_Value (.inr ⟨_, rfl, fun h => h⟩) (hra (by decide)) (.inl rfl) (by omega) (by omega)) ?_
          refine RT.g rfl rfl rfl (fun hg => ob_fieldAddr fo_api_Value_0 (.inr ⟨_, rfl, fun h => h⟩)) ?_
          refine RT.g rfl rfl rfl (fun hg => ob_loadG1 (enc := V3.cells) (sz := 3) (i := 0) (j := 0) (y := v) (u := .int .i64 (v).k) sz_int (.inr ⟨_, rfl, fun h => h⟩) (by repeat (first | exact List.mem_cons_self | apply List.mem_cons_of_mem)) (hra (by decide)) rfl (by omega) rfl) ?_
          refine RT.g rfl rfl rfl (fun hg => ob_eql (.inr ⟨_, rfl, fun h => h⟩) (.inl rfl)) ?_
          refine RT.g rfl rfl rfl (fun hg => ob_move (.inr ⟨_, rfl, fun h => h⟩)) ?_
          refine RT.gg rfl rfl rfl (fun hg => (ob_move (.inl rfl))) ?_
          refine RT.gg rfl rfl rfl (fun hg => (ob_indexAddr el_sl_api_Value (.inr ⟨_, rfl, fun h => h⟩) (hra (by decide)) (.inl rfl) (by omega) (by omega))) ?_
          refine RT.gg rfl rfl rfl (fun hg => (ob_fieldAddr fo_api_Value_1 (.inr ⟨_, rfl, fun h => h⟩))) ?_
          refine RT.gg rfl rfl rfl (fun hg => (ob_loadG1 (enc := V3.cells) (sz := 3) (i := 3) (j := 1) (y := nV (cntN vals v)) (u := .int .i64 ((cntN vals v : Nat) : Int)) sz_int64 (.inr ⟨_, rfl, fun h => h⟩) (by repeat (first | exact List.mem_cons_self | apply List.mem_cons_of_mem)) (hra (by decide)) rfl (by omega) rfl)) ?_
          refine RT.gg rfl rfl rfl (fun hg => (ob_neq (.inr ⟨_, rfl, fun h => h⟩) (.inl rfl))) ?_
          refine RT.g rfl rfl rfl (fun hg => ob_pickAnd (.inr ⟨_, rfl, fun h => h⟩) (.inl rfl) (.inl rfl) (fun h => ⟨hg, h⟩)) ?_
          refine RT.t (ob_pickOr rfl rfl rfl id) ?_
          refine RT.t (ob_move rfl) ?_
          refine RT.g rfl rfl rfl (fun hg => ob_move (.inl rfl)) ?_
          refine RT.g rfl rfl rfl (fun hg => ob_gtr (.inr ⟨_, rfl, fun h => h⟩) (.inl rfl)) ?_
          refine RT.g rfl rfl rfl (fun hg => ob_move (.inr ⟨_, rfl, fun h => h⟩)) ?_
          refine RT.gg rfl rfl rfl (fun hg => (ob_move (.inl rfl))) ?_
          refine RT.gg rfl rfl rfl (fun hg => (ob_move (.inl rfl))) ?_
          refine RT.gg rfl rfl rfl (fun hg => (ob_subc (cc := ((i - 1 : Nat) : Int)) (.inr ⟨_, rfl, fun h => h⟩) (.inl rfl) (by simp at hg; omega) (by omega) (by omega))) ?_
          refine RT.gg rfl rfl rfl (fun hg => (ob_indexAddr el_sl_sl_api_Value (.inr ⟨_, rfl, fun h => h⟩) (hpa (by omega)) (.inr ⟨_, rfl, fun h => h⟩) (by omega) (by omega))) ?_
          refine RT.gg rfl rfl rfl (fun hg => (ob_loadG1 (enc := RV.c) (sz := 1) (i := i - 1) (j := 0) (y := ps.getD (i - 1) rv0) (u := (ps.getD (i - 1) rv0).v) sz_sl_api_Value (.inr ⟨_, rfl, fun h => h⟩) (by repeat (first | exact List.mem_cons_self | apply List.mem_cons_of_mem)) (hpa (by omega)) (getD_some (by omega)) (by omega) rfl)) ?_
          refine RT.gg rfl rfl rfl (fun hg => (ob_sliceHi un_sl_api_Value el_sl_api_Value (.inr ⟨_, rfl, fun h => h⟩) (.inl rfl) (by omega) (hcp (i - 1) (by omega)))) ?_
          refine RT.gg rfl rfl rfl (fun hg => (ob_move (.inl rfl))) ?_
          refine RT.gg rfl rfl rfl (fun hg => (ob_sliceHi un_sl_api_Value el_sl_api_Value (.inr ⟨_, rfl, fun h => h⟩) (.inl rfl) (by omega) (hcp i (by omega)))) ?_
          refine RT.gg rfl rfl rfl (fun hg => (ob_call (.inl rfl) (c_ref15_Rows ((ps.getD (i - 1) rv0).row.take 1) ((ps.getD i rv0).row.take 1) (by rw [List.length_take]; omega)) (.sub (.inr ⟨_, rfl, fun h => h⟩) (Sub.rvTake 1 (p := ps.getD (i - 1) rv0) (getD_mem (by omega)) (by repeat (first | exact List.mem_cons_self | apply List.mem_cons_of_mem)) (hln (i - 1) (by omega))) (.sub (.inr ⟨_, rfl, fun h => h⟩) (Sub.rvTake 1 (p := ps.getD i rv0) (getD_mem (by omega)) (by repeat (first | exact List.mem_cons_self | apply List.mem_cons_of_mem)) (hln i (by omega))) .nil)))) ?_
          refine RT.gg rfl rfl rfl (fun hg => (ob_geq (.inr ⟨_, rfl, fun h => h⟩) (.inl rfl))) ?_
          refine RT.g rfl rfl rfl (fun hg => ob_pickAnd (.inr ⟨_, rfl, fun h => h⟩) (.inl rfl) (.inl rfl) (fun h => ⟨hg, h⟩)) ?_
          refine RT.t (ob_pickOr rfl rfl rfl id) ?_
          refine RT.nil ?_
          refine FinS.nil0 ?_
          repeat (first | refine JX.next ?_ | refine JX.normal_block ?_)
          refine J.sel [0, 6, 8, 9, 10, 138] (.cons rfl (.cons rfl (.cons rfl (.cons rfl (.cons rfl (.cons rfl .nil)))))) ?_
          repeat refine J.seq ?_
          refine J.cond rfl (fun ht138 => ?_) (fun ht138 => ?_)
          ·
            try simp only [decide_eq_true_eq, decide_eq_false_iff_not] at ht138
            exfalso
            exact dead6 hlt ht138
          ·
            try simp only [decide_eq_true_eq, decide_eq_false_iff_not] at ht138
            refine J.skip ?_
            repeat (first | refine JX.next ?_ | refine JX.normal_block ?_)
            repeat refine J.seq ?_
            refine J.plain ?_
            refine JO.t (ob_move rfl) rfl ?_
            refine JO.t (ob_move rfl) rfl ?_
            refine JO.t (ob_indexAddr el_sl_api_Value rfl (hra (by decide)) rfl (by omega) (by omega)) rfl ?_
            refine JO.t (ob_fieldAddr fo_api_Value_1 rfl) rfl ?_
            refine JO.t (ob_loadG1 (enc := V3.cells) (sz := 3) (i := 4) (j := 1) (y := nV (cnt vals v)) (u := .int .i64 ((cnt vals v : Nat) : Int)) sz_int64 rfl (by repeat (first | exact List.mem_cons_self | apply List.mem_cons_of_mem)) (hra (by decide)) rfl (by omega) rfl) rfl ?_
            refine JO.t (ob_addc (cc := ((((D.map (cnt vals)).take (i + 1)).sum : Nat) : Int)) rfl rfl (by rw [sum_step (by rw [List.length_map]; omega), hci]; omega) (by omega) (by have := sum_le (D.map (cnt vals)) (i + 1); omega)) rfl ?_
            refine JO.t (ob_assign rfl) rfl ?_
            refine JO.nil ?_
            repeat (first | refine JX.next ?_ | refine JX.normal_block ?_)
            refine J.sel [0, 6, 8, 9] (.cons rfl (.cons rfl (.cons rfl (.cons rfl .nil)))) ?_
            repeat refine J.seq ?_
            refine J.plain ?_
            refine JO.t (ob_move rfl) rfl ?_
            refine JO.t (ob_addc (cc := ((i + 1 : Nat) : Int)) rfl rfl (by omega) (by omega) (by omega)) rfl ?_
            refine JO.t (ob_assign rfl) rfl ?_
            refine JO.nil ?_
            repeat refine JX.normal_block ?_
            refine JX.roundS (i + 1) ?_ ?_ [0, 6, 8, 9] ?_ ?_ ?_
            · exact (by omega)
            · exact (by omega)
            · exact (.cons rfl (.cons rfl (.cons rfl (.cons rfl .nil))))
            · repeat (first | exact .slnil | exact List.Sublist.refl _ | apply List.Sublist.cons_cons | apply List.Sublist.cons)
            · repeat (first | exact .slnil | exact List.Sublist.refl _ | apply List.Sublist.cons_cons | apply List.Sublist.cons)
        ·
          try simp only [decide_eq_true_eq, decide_eq_false_iff_not] at ht63
          repeat refine J.seq ?_
          refine J.exit ?_
          repeat (first | refine JX.hit ?_ | refine JX.miss rfl ?_ | refine JX.exit_pass ?_)
          repeat (first | refine JX.next ?_ | refine JX.normal_block ?_)
          repeat refine J.seq ?_
          refine J.plain ?_
          refine JO.t (ob_move rfl) rfl ?_
          refine JO.t (ob_move rfl) rfl ?_
          refine JO.t (ob_len un_sl_api_Value rfl) rfl ?_
          refine JO.t (ob_eql rfl rfl) rfl ?_
          refine JO.t (ob_assign rfl) rfl ?_
          refine JO.nil ?_
          repeat (first | refine JX.next ?_ | refine JX.normal_block ?_)
          refine J.sel [2] (.cons rfl .nil) ?_
          repeat refine J.seq ?_
          refine J.ret ?_
          repeat (first | refine JX.ret_pass ?_ | refine JX.ret_block ?_)
          exact JX.ret1is rfl rfl (by rw [List.take_of_length_le (by rw [List.length_map]; omega), hsum, beq_self_eq_true])
end Go.Proofs.Ytgpikmonklainaa
