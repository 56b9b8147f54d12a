/- group: the law of parts. No condition. -/
import Derived.Test.YtgpikmonklainaaXGL3a
set_option maxRecDepth 20000
namespace Go.Proofs.Ytgpikmonklainaa
open Go Go.Vc
open Go.Vl Go.Od
theorem rowG_pre {α : Type} {enc : α → List Value} {sz : Nat} {xs : List α} {a : Option Addr} {len : Nat} {w : World} (h : RowG enc sz xs a len w) (n : Nat) (hn : n ≤ len) : RowG enc sz (xs.take n) a n w := by
  obtain ⟨hl, hk⟩ := h
  refine ⟨by rw [List.length_take]; omega, fun hne => ?_⟩
  obtain ⟨b, o, ha, hr⟩ := hk (by omega)
  refine ⟨b, o, ha, fun i x hx => hr i x ?_⟩
  rw [List.getElem?_take] at hx
  split at hx
  · exact hx
  · cases hx
theorem Sub.rowsTake {L : List Own} {Φ : List (World → Prop)} {ps : List RV} {rows : List (List V3)} {a : Option Addr} {len cap n : Nat} (h : RowG RV.c 1 ps a len ∈ Φ) (hF : RVF ps ∈ Φ) (hn : n ≤ len) (hc : len ≤ cap) (hm : (ps.take n).map RV.row = rows) : Sub L Φ (.is (.slice a n cap)) (.rep (RowsR noG rows)) := fun E v w hf e => by
  rw [show v = _ from e]
  exact fun w' hk => ⟨ps.take n, a, n, cap, hm, rfl, by omega, rowG_pre (hf.2 _ h w' hk) n hn, fun p hp => hf.2 _ hF w' hk p (List.take_subset _ _ hp), trivial⟩
theorem Sub.rowsDrop {L : List Own} {Φ : List (World → Prop)} {ps : List RV} {rows : List (List V3)} {a : Option Addr} {len cap n : Nat} (h : RowG RV.c 1 ps a len ∈ Φ) (hF : RVF ps ∈ Φ) (hl : ps.length = len) (hn : n ≤ len) (hc : len ≤ cap) (hm : (ps.drop n).map RV.row = rows) : Sub L Φ (.is (.slice (adS a n cap 1) (len - n) (cap - n))) (.rep (RowsR noG rows)) := fun E v w hf e => by
  rw [show v = _ from e]
  intro w' hk
  have h1 := rowG_part (hf.2 _ h w' hk) hc n (len - n) (by omega)
  rw [List.take_of_length_le (by rw [List.length_drop]; omega)] at h1
  exact ⟨ps.drop n, _, len - n, cap - n, hm, rfl, by omega, h1, fun p hp => hf.2 _ hF w' hk p (List.drop_subset _ _ hp), trivial⟩
theorem nil_rows {n b : Nat} {ts : TypeId} {w : World} (h1 : HeapIs b (List.replicate n (.slice none 0 0)) ts w) : RowG RV.c 1 (List.replicate n rv0) (some ⟨b, 0, none⟩) n w := by
  rw [← flat_rv0] at h1
  obtain ⟨a, len, cap, e1, hr⟩ := sl_of_heap (enc := RV.c) (sz := 1) RV.c_len (n := n) (xs := List.replicate n rv0) List.length_replicate (by rw [Nat.mul_one, List.take_of_length_le (by rw [flat_rv0, List.length_replicate]; exact Nat.le_refl _)]) h1 n
  injection e1 with e1 e2 e3
  subst e1 e2 e3
  exact hr
theorem nn_sub {l : List V3} {v : V3} (h : v ∈ nn l) : v ∈ l := (List.mem_filter.1 h).1
theorem t4_rng {vs : List V3} (hv : ∀ v ∈ vs, I64 v.n) (hn : ∀ v ∈ vs, v.k ≠ 0) (hl : vs.length ≤ 1048576) (hs : vs.length = 0 ∨ I64 (sm vs)) : ∀ v ∈ t4 vs, I64 v.n := by
  have hp : ∀ sg : Int, sg = 1 ∨ sg = -1 → I64 (pkA sg vs).n := fun sg h => by
    by_cases h0 : vs = []
    · rw [h0]
      show I64 (0 : Int)
      exact ⟨by decide, by decide⟩
    · exact hv _ (pkA_spec h vs hn h0).1
  intro v h
  unfold t4 at h
  simp only [List.mem_cons, List.not_mem_nil, or_false] at h
  rcases h with rfl | rfl | rfl | rfl
  · exact ⟨by show _ ≤ ((vs.length : Nat) : Int); omega, by show ((vs.length : Nat) : Int) < _; omega⟩
  · split
    · exact ⟨by decide, by decide⟩
    · exact hs.resolve_left (by assumption)
  · exact hp _ (.inr rfl)
  · exact hp _ (.inl rfl)
theorem pA_take (vals : List V3) (k : Nat) : (pA vals).take k = pA (vals.take k) := by unfold pA; rw [List.map_take]
theorem pA_drop (vals : List V3) (k : Nat) : (pA vals).drop k = pA (vals.drop k) := by unfold pA; rw [List.map_drop]
theorem row_pA (vals : List V3) (h : ∀ v ∈ vals, I64 v.n) : ∀ r ∈ pA vals, ∀ v ∈ r, I64 v.n := fun r hr v hv => by
  obtain ⟨x, hx, rfl⟩ := List.mem_map.1 hr
  simp at hv
  rw [hv]; exact h x hx
theorem len_pA (vals : List V3) : ∀ r ∈ pA vals, r.length ≤ 1048576 := fun r hr => by
  obtain ⟨x, hx, rfl⟩ := List.mem_map.1 hr
  exact Nat.le_of_ble_eq_true rfl
theorem len_wK (k : Nat) : ∀ r ∈ wK k, r.length ≤ 1048576 := fun r hr => by
  rw [(List.mem_replicate.1 hr).2]; exact Nat.zero_le _
set_option maxHeartbeats 1000000 in
theorem c_law16_GroupParts (vals : List V3) (hn : vals.length ≤ 1048575) (hv : ∀ v ∈ vals, I64 v.n) (c : Int) (hc0 : 0 ≤ c) (hc1 : c < 256) : CallTy Try.prog f_law16_GroupParts [.rep (RowS vals), .is (.int .u8 c)] (.is (.bool true)) :=
  CallTy.of (fn := Try.f7) Try.func7 (n := 117) rfl rfl rfl (fun _ _ => by kernel_rfl) fun E W => by
  refine J.openSl (enc := V3.cells) (sz := 3) (s := 0) rfl (fun a len cap b o hlen ha => ?_)
  subst hlen
  obtain ⟨k, hk, hk2⟩ : ∃ k : Nat, c.tmod ((vals.length + 1 : Nat) : Int) = (k : Int) ∧ k ≤ vals.length := by
    have h1 := Int.emod_nonneg c (show ((vals.length + 1 : Nat) : Int) ≠ 0 by omega)
    have h2 := Int.emod_lt_of_pos c (show 0 < ((vals.length + 1 : Nat) : Int) by omega)
    refine ⟨(c % ((vals.length + 1 : Nat) : Int)).toNat, ?_, by omega⟩
    rw [Int.tmod_eq_emod_of_nonneg hc0]
    omega
  repeat refine J.seq ?_
  refine J.plain ?_
  refine JO.t (ob_assign rfl) rfl ?_
  refine JO.nil ?_
  repeat (first | refine JX.next ?_ | refine JX.normal_block ?_)
  refine J.sel [0, 1] (.cons rfl (.cons rfl .nil)) ?_
  repeat refine J.seq ?_
  refine J.plain ?_
  refine JO.t (ob_call rfl c_law16_awake .nil) rfl ?_
  refine JO.t (ob_not rfl) rfl ?_
  refine JO.nil ?_
  repeat (first | refine JX.next ?_ | refine JX.normal_block ?_)
  refine J.sel [0, 1, 20] (.cons rfl (.cons rfl (.cons rfl .nil))) ?_
  repeat refine J.seq ?_
  refine J.cond rfl (fun ht20 => ?_) (fun ht20 => ?_)
  ·
    try simp only [decide_eq_true_eq, decide_eq_false_iff_not] at ht20
    exfalso
    simp at ht20
  ·
    try simp only [decide_eq_true_eq, decide_eq_false_iff_not] at ht20
    refine J.skip ?_
    repeat (first | refine JX.next ?_ | refine JX.normal_block ?_)
    repeat refine J.seq ?_
    refine J.plain ?_
    refine JO.t (ob_move rfl) rfl ?_
    refine JO.t (ob_convIIe (cc := c) ⟨_, un_uint8⟩ un_int rfl (wrap64_eq (by omega) (by omega))) rfl ?_
    refine JO.t (ob_move rfl) rfl ?_
    refine JO.t (ob_len un_sl_api_Value rfl) rfl ?_
    refine JO.t (ob_addc (cc := ((vals.length + 1 : Nat) : Int)) rfl rfl (by omega) (by omega) (by omega)) rfl ?_
    refine JO.t (ob_remv (v := ((k : Nat) : Int)) rfl rfl (by omega) hk) rfl ?_
    refine JO.t (ob_assign rfl) rfl ?_
    refine JO.nil ?_
    repeat (first | refine JX.next ?_ | refine JX.normal_block ?_)
    refine J.sel [0, 5] (.cons rfl (.cons rfl .nil)) ?_
    repeat refine J.seq ?_
    refine J.plain ?_
    refine JO.t (ob_buildSlice (cs := [_, _, _, _]) sl_sl_int (by omega) (by omega) (.cons rfl (.cons rfl (.cons rfl (.cons rfl .nil)))) rfl rfl rfl) rfl ?_
    refine JO.t (ob_assign rfl) rfl ?_
    refine JO.nil ?_
    repeat (first | refine JX.next ?_ | refine JX.normal_block ?_)
    refine J.sel [0, 5, 6] (.cons rfl (.cons rfl (.cons rfl .nil))) ?_
    refine J.coer (s := 6) (T' := .rep (SlG kC 1 kd4)) rfl (Sub.newSlG kC_len rfl rfl) ?_
    repeat refine J.seq ?_
    refine J.plain ?_
    refine JO.t (ob_assign rfl) rfl ?_
    refine JO.nil ?_
    repeat (first | refine JX.next ?_ | refine JX.normal_block ?_)
    refine J.sel [0, 5, 6, 7] (.cons rfl (.cons rfl (.cons rfl (.cons rfl .nil)))) ?_
    repeat refine J.seq ?_
    refine J.plain ?_
    refine JO.t (ob_assign rfl) rfl ?_
    refine JO.nil ?_
    repeat (first | refine JX.next ?_ | refine JX.normal_block ?_)
    refine J.sel [0, 5, 6, 7, 8] (.cons rfl (.cons rfl (.cons rfl (.cons rfl (.cons rfl .nil))))) ?_
    repeat refine J.seq ?_
    refine J.block ?_
    repeat refine J.seq ?_
    refine J.loopG (α := List RV × Option (Nat × List Value) × Nat) (fun y => [(0, .is (.slice a vals.length cap)), (5, .is (.int .i64 (k : Nat))), (6, .rep (SlG kC 1 kd4)), (7, .is (sliceO y.2.1 y.1.length y.2.2)), (8, .is (.int .i64 (y.1.length : Nat)))]) (fun y => ownO y.2.1 ty_sl_api_Value []) (fun y => RVF y.1) (fun y => Grows RV.c 1 y.1 y.2.1 y.2.2 ∧ y.1.length ≤ vals.length ∧ y.1.map RV.row = pA (vals.take y.1.length)) (fun y => vals.length - y.1.length) ([], none, 0) [0, 5, 6, 7, 8] (.cons rfl (.cons rfl (.cons rfl (.cons rfl (.cons rfl .nil))))) rfl (fun _ => fun p hp => absurd hp List.not_mem_nil) ⟨rfl, Nat.zero_le _, rfl⟩ fun ⟨ops, st, cp⟩ ⟨hG, hol, hor⟩ => ?_
    try dsimp only
    try dsimp only at st
    try dsimp only at cp
    try dsimp only at hG
    try dsimp only at hol
    try dsimp only at hor
    repeat refine J.seq ?_
    refine J.plain ?_
    refine JO.t (ob_move rfl) rfl ?_
    refine JO.t (ob_move rfl) rfl ?_
    refine JO.t (ob_len un_sl_api_Value rfl) rfl ?_
    refine JO.t (ob_lss rfl rfl) rfl ?_
    refine JO.nil ?_
    repeat (first | refine JX.next ?_ | refine JX.normal_block ?_)
    refine J.sel [0, 5, 6, 7, 8, 31] (.cons rfl (.cons rfl (.cons rfl (.cons rfl (.cons rfl (.cons rfl .nil)))))) ?_
    repeat refine J.seq ?_
    refine J.cond rfl (fun ht31 => ?_) (fun ht31 => ?_)
    ·
      try simp only [decide_eq_true_eq, decide_eq_false_iff_not] at ht31
      refine J.skip ?_
      repeat (first | refine JX.next ?_ | refine JX.normal_block ?_)
      repeat refine J.seq ?_
      refine J.block ?_
      repeat refine J.seq ?_
      refine J.regS 19 hmx (by kernel_rfl) (by kernel_rfl) ?_
      refine RT.t (ob_move rfl) ?_
      refine RT.t (ob_move rfl) ?_
      refine RT.t (ob_move rfl) ?_
      refine RT.t (ob_indexAddr el_sl_api_Value rfl (ha (by omega)) rfl (by omega) (by omega)) ?_
      refine RT.t (ob_loadG (enc := V3.cells) (sz := 3) (i := ops.length) (y := vals.getD ops.length v3E) (cs := V3.cells (vals.getD ops.length v3E)) sz_api_Value rfl (by repeat (first | exact List.mem_cons_self | apply List.mem_cons_of_mem)) (ha (by omega)) (v3_get (by omega)) (by omega) rfl) ?_
      refine RT.t (ob_move rfl) ?_
      refine RT.t (ob_move rfl) ?_
      refine RT.t (ob_indexAddr el_sl_api_Value rfl (ha (by omega)) rfl (by omega) (by omega)) ?_
      refine RT.t (ob_loadG (enc := V3.cells) (sz := 3) (i := ops.length) (y := vals.getD ops.length v3E) (cs := V3.cells (vals.getD ops.length v3E)) sz_api_Value rfl (by repeat (first | exact List.mem_cons_self | apply List.mem_cons_of_mem)) (ha (by omega)) (v3_get (by omega)) (by omega) rfl) ?_
      refine RT.t (ob_move rfl) ?_
      refine RT.t (ob_move rfl) ?_
      refine RT.t (ob_indexAddr el_sl_api_Value rfl (ha (by omega)) rfl (by omega) (by omega)) ?_
      refine RT.t (ob_loadG (enc := V3.cells) (sz := 3) (i := ops.length) (y := vals.getD ops.length v3E) (cs := V3.cells (vals.getD ops.length v3E)) sz_api_Value rfl (by repeat (first | exact List.mem_cons_self | apply List.mem_cons_of_mem)) (ha (by omega)) (v3_get (by omega)) (by omega) rfl) ?_
      refine RT.t (ob_move rfl) ?_
      refine RT.t (ob_move rfl) ?_
      refine RT.t (ob_indexAddr el_sl_api_Value rfl (ha (by omega)) rfl (by omega) (by omega)) ?_
      refine RT.t (ob_loadG (enc := V3.cells) (sz := 3) (i := ops.length) (y := vals.getD ops.length v3E) (cs := V3.cells (vals.getD ops.length v3E)) sz_api_Value rfl (by repeat (first | exact List.mem_cons_self | apply List.mem_cons_of_mem)) (ha (by omega)) (v3_get (by omega)) (by omega) rfl) ?_
      refine RT.t (ob_buildSlice (cs := [_, _, _, _, _, _, _, _, _, _, _, _]) sl_sl_api_Value (by omega) (by omega) (.cons rfl (.cons rfl (.cons rfl (.cons rfl .nil)))) rfl rfl rfl) ?_
      refine RT.t (ob_bRows1 (r0 := row4 (vals.getD ops.length v3E)) sl_sl_sl_api_Value rfl (Sub.newSlC v3_len rfl rfl (Nat.le_refl _))) ?_
      refine RT.nil ?_
      refine FinS.tail0 ?_
      refine JO.openRows (s := 52) rfl (fun p1 a1 l1 c1 b1 o1 hm1 hl1 hc1 ha1 => ?_)
      have hp1l : p1.length = 1 := by rw [← List.length_map (f := RV.row), hm1]; rfl
      refine JO.apX p1 ap_sl_sl_api_Value RV.c_len (by repeat (first | exact .here | apply Cx.past | apply Cx.there)) hG rfl rfl (fun L => src_slF RV.c_len (by omega) RV.c_one un_sl_sl_api_Value (by repeat (first | exact List.mem_cons_self | apply List.mem_cons_of_mem))) (.inr (fun h => by rw [h] at hp1l; cases hp1l)) (by omega) (by omega) rfl (fun st2 cp2 hG2 => ?_)
      try dsimp only
      refine JO.t (ob_assign rfl) rfl ?_
      refine JO.nil ?_
      repeat (first | refine JX.next ?_ | refine JX.normal_block ?_)
      refine J.sel [0, 5, 6, 7, 8] (.cons rfl (.cons rfl (.cons rfl (.cons rfl (.cons rfl .nil))))) ?_
      repeat refine J.seq ?_
      refine J.plain ?_
      refine JO.t (ob_move rfl) rfl ?_
      refine JO.t (ob_addc (cc := (((ops ++ p1).length : Nat) : Int)) rfl rfl (by rw [List.length_append]; omega) (by omega) (by rw [List.length_append]; omega)) rfl ?_
      refine JO.t (ob_assign rfl) rfl ?_
      refine JO.nil ?_
      repeat refine JX.normal_block ?_
      refine JX.roundG (x := (ops, st, cp)) (ops ++ p1, st2, cp2) ?_ ?_ [0, 5, 6, 7, 8] ?_ ?_ ?_ ?_
      · exact ⟨hG2, by show (ops ++ p1).length ≤ _; rw [List.length_append]; omega, by
    show (ops ++ p1).map RV.row = pA (vals.take (ops ++ p1).length)
    rw [List.map_append, List.length_append, hp1l, take_snocV (by omega), hor, hm1]
    unfold pA
    rw [List.map_append]
    rfl⟩
      · exact (by show vals.length - (ops ++ p1).length < vals.length - ops.length; rw [List.length_append]; omega)
      · exact (.cons rfl (.cons rfl (.cons rfl (.cons rfl (.cons rfl .nil)))))
      · repeat (first | exact .all | exact .nil | refine Has.own (by repeat (first | exact .here | apply Tl.past | apply Tl.there)) ?_ | refine Has.cons (by repeat (first | exact .here | apply Pk.past | apply Pk.there)) ?_)
      · exact fun G hG => by repeat (first | exact hG | refine List.mem_cons_of_mem _ ?_)
      · exact fun E w hF => fun w2 hk2 q hq => (List.mem_append.1 hq).elim (fun h => hF (RVF ops) (by repeat (first | exact List.mem_cons_self | apply List.mem_cons_of_mem)) w2 hk2 q h) (fun h => hF (RVF p1) (by repeat (first | exact List.mem_cons_self | apply List.mem_cons_of_mem)) w2 hk2 q h)
    ·
      try simp only [decide_eq_true_eq, decide_eq_false_iff_not] at ht31
      repeat refine J.seq ?_
      refine J.exit ?_
      repeat (first | refine JX.hit ?_ | refine JX.miss rfl ?_ | refine JX.exit_pass ?_)
      repeat (first | refine JX.next ?_ | refine JX.normal_block ?_)
      have hol2 : ops.length = vals.length := by omega
      rw [hol2, List.take_length] at hor
      refine J.freezeO RV.c_len hG (e := ty_sl_api_Value) (by repeat (first | exact .here | apply Tl.past | apply Tl.there)) (fun _ h => h) rfl rfl ?_
      have hcap := hG.sl.2
      refine J.coer (s := 7) (T' := .is (.slice (adO st) ops.length (capO st cp))) rfl (Sub.isEq hG.sl.1) ?_
      repeat refine J.seq ?_
      refine J.plain ?_
      refine JO.t (ob_move rfl) rfl ?_
      refine JO.t (ob_len un_sl_sl_api_Value rfl) rfl ?_
      refine JO.mkSl1 un_sl_sl_api_Value (n := vals.length) (z := .slice none 0 0) (bytes := 24) (by kernel_rfl) rfl rfl rfl (by rw [hol2]) (by rw [hol2]) (by omega) (by omega) rfl (fun b56 => ?_)
      refine JO.t (ob_assign rfl) rfl ?_
      refine JO.nil ?_
      repeat (first | refine JX.next ?_ | refine JX.normal_block ?_)
      refine J.sel [5, 6, 7, 9] (.cons rfl (.cons rfl (.cons rfl (.cons rfl .nil)))) ?_
      refine J.freeze (b := b56) (e := ty_sl_api_Value) (cs := List.replicate vals.length (.slice none 0 0)) (fun _ h => h) rfl rfl ?_
      refine J.fact (RowG RV.c 1 (List.replicate vals.length rv0) (some ⟨b56, 0, none⟩) vals.length) (fun E w hG _ => fun w2 hk => nil_rows (hG (HeapIs b56 (List.replicate vals.length (.slice none 0 0)) ty_sl_api_Value) (by repeat (first | exact List.mem_cons_self | apply List.mem_cons_of_mem)) w2 hk)) ?_
      refine J.fact (RVF (List.replicate vals.length rv0)) (fun E w _ _ => fun w2 _ p hp => by rw [(List.mem_replicate.1 hp).2]; exact ⟨Nat.le_refl _, rfl, fun h => absurd rfl h⟩) ?_
      repeat refine J.seq ?_
      refine J.plain ?_
      refine JO.t (ob_move rfl) rfl ?_
      refine JO.t (ob_move rfl) rfl ?_
      refine JO.t (ob_move rfl) rfl ?_
      refine JO.t (ob_call rfl (c_group_Rows (wK vals.length) (pA vals) kd4 true (by unfold wK; rw [List.length_replicate]; omega) (by unfold pA; rw [List.length_map]; omega) (len_pA _) (len_wK _) (Nat.le_of_ble_eq_true rfl) (row_pA _ hv)) (.sub rfl (Sub.rowsF (rps := List.replicate vals.length rv0) (by repeat (first | exact List.mem_cons_self | apply List.mem_cons_of_mem)) (by repeat (first | exact List.mem_cons_self | apply List.mem_cons_of_mem)) (Nat.le_refl _) (by rw [List.map_replicate]; rfl)) (.sub rfl (Sub.rowsF (rps := ops) (by repeat (first | exact List.mem_cons_self | apply List.mem_cons_of_mem)) (by repeat (first | exact List.mem_cons_self | apply List.mem_cons_of_mem)) hcap hor) (.one rfl (.one rfl .nil))))) rfl ?_
      refine JO.t (ob_move rfl) rfl ?_
      refine JO.t (ob_extract0 rfl) rfl ?_
      refine JO.t (ob_extract1 rfl) rfl ?_
      refine JO.t (ob_assign rfl) rfl ?_
      refine JO.t (ob_assign rfl) rfl ?_
      refine JO.nil ?_
      repeat (first | refine JX.next ?_ | refine JX.normal_block ?_)
      refine J.sel [5, 6, 7, 9, 10, 11] (.cons rfl (.cons rfl (.cons rfl (.cons rfl (.cons rfl (.cons rfl .nil)))))) ?_
      repeat refine J.seq ?_
      refine J.reg0 hmx (by kernel_rfl) (by kernel_rfl) ?_
      refine RT.t (ob_move rfl) ?_
      refine RT.t (ob_move rfl) ?_
      refine RT.t (ob_sliceHi un_sl_sl_api_Value el_sl_sl_api_Value rfl rfl (by omega) (by omega)) ?_
      refine RT.t (ob_move rfl) ?_
      refine RT.t (ob_move rfl) ?_
      refine RT.t (ob_sliceHi un_sl_sl_api_Value el_sl_sl_api_Value rfl rfl (by omega) (by omega)) ?_
      refine RT.t (ob_move rfl) ?_
      refine RT.t (ob_call rfl (c_group_Rows (wK (vals.take k).length) (pA (vals.take k)) kd4 true (by unfold wK; rw [List.length_replicate]; simp; omega) (by unfold pA; rw [List.length_map]; simp; omega) (len_pA _) (len_wK _) (Nat.le_of_ble_eq_true rfl) (row_pA _ (fun x hx => hv x (List.take_subset _ _ hx)))) (.sub rfl (Sub.rowsTake (n := k) (ps := List.replicate vals.length rv0) (by repeat (first | exact List.mem_cons_self | apply List.mem_cons_of_mem)) (by repeat (first | exact List.mem_cons_self | apply List.mem_cons_of_mem)) hk2 (Nat.le_refl _) (by simp [wK, Nat.min_eq_left hk2]; exact .inr rfl)) (.sub rfl (Sub.rowsTake (n := k) (ps := ops) (by repeat (first | exact List.mem_cons_self | apply List.mem_cons_of_mem)) (by repeat (first | exact List.mem_cons_self | apply List.mem_cons_of_mem)) (by omega) hcap (by rw [List.map_take, hor, pA_take])) (.one rfl (.one rfl .nil))))) ?_
      refine RT.t (ob_move rfl) ?_
      refine RT.t (ob_extract0 rfl) ?_
      refine RT.t (ob_extract1 rfl) ?_
      refine RT.t (ob_assign rfl) ?_
      refine RT.t (ob_assign rfl) ?_
      refine RT.nil ?_
      refine FinS.nil0 ?_
      repeat (first | refine JX.next ?_ | refine JX.normal_block ?_)
      refine J.sel [5, 6, 7, 9, 10, 11, 12, 13] (.cons rfl (.cons rfl (.cons rfl (.cons rfl (.cons rfl (.cons rfl (.cons rfl (.cons rfl .nil)))))))) ?_
      repeat refine J.seq ?_
      refine J.reg0 hmx (by kernel_rfl) (by kernel_rfl) ?_
      refine RT.t (ob_move rfl) ?_
      refine RT.t (ob_move rfl) ?_
      refine RT.t (ob_sliceLo un_sl_sl_api_Value el_sl_sl_api_Value rfl rfl (by omega) (by omega)) ?_
      refine RT.t (ob_move rfl) ?_
      refine RT.t (ob_move rfl) ?_
      refine RT.t (ob_sliceLo un_sl_sl_api_Value el_sl_sl_api_Value rfl rfl (by omega) (by omega)) ?_
      refine RT.t (ob_move rfl) ?_
      refine RT.t (ob_call rfl (c_group_Rows (wK (vals.drop k).length) (pA (vals.drop k)) kd4 true (by unfold wK; rw [List.length_replicate]; simp; omega) (by unfold pA; rw [List.length_map]; simp; omega) (len_pA _) (len_wK _) (Nat.le_of_ble_eq_true rfl) (row_pA _ (fun x hx => hv x (List.drop_subset _ _ hx)))) (.sub rfl (Sub.rowsDrop (n := k) (ps := List.replicate vals.length rv0) (by repeat (first | exact List.mem_cons_self | apply List.mem_cons_of_mem)) (by repeat (first | exact List.mem_cons_self | apply List.mem_cons_of_mem)) (by simp) hk2 (Nat.le_refl _) (by simp [wK]; exact .inr rfl)) (.sub rfl (Sub.rowsDrop (n := k) (ps := ops) (by repeat (first | exact List.mem_cons_self | apply List.mem_cons_of_mem)) (by repeat (first | exact List.mem_cons_self | apply List.mem_cons_of_mem)) rfl (by omega) hcap (by rw [List.map_drop, hor, pA_drop])) (.one rfl (.one rfl .nil))))) ?_
      refine RT.t (ob_move rfl) ?_
      refine RT.t (ob_extract0 rfl) ?_
      refine RT.t (ob_extract1 rfl) ?_
      refine RT.t (ob_assign rfl) ?_
      refine RT.t (ob_assign rfl) ?_
      refine RT.nil ?_
      refine FinS.nil0 ?_
      repeat (first | refine JX.next ?_ | refine JX.normal_block ?_)
      refine J.sel [10, 11, 12, 13, 14, 15] (.cons rfl (.cons rfl (.cons rfl (.cons rfl (.cons rfl (.cons rfl .nil)))))) ?_
      repeat refine J.seq ?_
      refine J.reg0 hmx (by kernel_rfl) (by kernel_rfl) ?_
      refine RT.t (ob_move rfl) ?_
      refine RT.t (ob_neq rfl rfl) ?_
      refine RT.t (ob_move rfl) ?_
      refine RT.g rfl rfl rfl (fun hg => ob_move (.inl rfl)) ?_
      refine RT.g rfl rfl rfl (fun hg => ob_neq (.inr ⟨_, rfl, fun h => h⟩) (.inl rfl)) ?_
      refine RT.t (ob_pickOr rfl rfl rfl id) ?_
      refine RT.t (ob_move rfl) ?_
      refine RT.g rfl rfl rfl (fun hg => ob_move (.inl rfl)) ?_
      refine RT.g rfl rfl rfl (fun hg => ob_neq (.inr ⟨_, rfl, fun h => h⟩) (.inl rfl)) ?_
      refine RT.t (ob_pickOr rfl rfl rfl id) ?_
      refine RT.nil ?_
      refine FinS.nil0 ?_
      repeat (first | refine JX.next ?_ | refine JX.normal_block ?_)
      refine J.sel [10, 12, 14, 95] (.cons rfl (.cons rfl (.cons rfl (.cons rfl .nil)))) ?_
      repeat refine J.seq ?_
      refine J.cond rfl (fun ht95 => ?_) (fun ht95 => ?_)
      ·
        try simp only [decide_eq_true_eq, decide_eq_false_iff_not] at ht95
        repeat refine J.seq ?_
        refine J.plain ?_
        refine JO.t (ob_assign rfl) rfl ?_
        refine JO.nil ?_
        repeat (first | refine JX.next ?_ | refine JX.normal_block ?_)
        refine J.sel [4] (.cons rfl .nil) ?_
        repeat refine J.seq ?_
        refine J.ret ?_
        repeat (first | refine JX.ret_pass ?_ | refine JX.ret_block ?_)
        exact JX.ret1is rfl rfl (by first | rfl | (rw [(sameR_iff _ _).2 rfl]; rfl))
      ·
        try simp only [decide_eq_true_eq, decide_eq_false_iff_not] at ht95
        refine J.skip ?_
        repeat (first | refine JX.next ?_ | refine JX.normal_block ?_)
        simp only [Bool.or_eq_false_iff, bne_eq_false_iff_eq] at ht95
        obtain ⟨o0, s0, g0⟩ := grp_p ht95.1.1
        obtain ⟨o1, s1, g1⟩ := grp_p ht95.1.2
        obtain ⟨o2, s2, g2⟩ := grp_p ht95.2
        rw [g0, g1, g2]
        dsimp only
        have hl1 : (nn (vals.take k)).length ≤ k := Nat.le_trans (nn_len _) (by rw [List.length_take]; omega)
        have hl2 : (nn (vals.drop k)).length ≤ vals.length - k := Nat.le_trans (nn_len _) (by rw [List.length_drop]; omega)
        refine J.openRows (s := 12) rfl (fun ps1 a1 l1 c1 b1 q1 hm1 hl1x hc1x ha1 => ?_)
        refine J.openRows (s := 14) rfl (fun ps2 a2 l2 c2 b2 q2 hm2 hl2x hc2x ha2 => ?_)
        subst hl1x hl2x
        have hz1 : ps1.length = 1 := by rw [← List.length_map (f := RV.row), hm1]; rfl
        have hz2 : ps2.length = 1 := by rw [← List.length_map (f := RV.row), hm2]; rfl
        have hr1 : (ps1.getD 0 rv0).row = t4 (nn (vals.take k)) := by rw [← rowD (by omega), hm1]; rfl
        have hr2 : (ps2.getD 0 rv0).row = t4 (nn (vals.drop k)) := by rw [← rowD (by omega), hm2]; rfl
        repeat refine J.seq ?_
        refine J.reg0 hmx (by kernel_rfl) (by kernel_rfl) ?_
        refine RT.t (ob_move rfl) ?_
        refine RT.t (ob_indexAddr el_sl_sl_api_Value rfl (ha1 (by omega)) rfl (by omega) (by omega)) ?_
        refine RT.t (ob_loadG1 (enc := RV.c) (sz := 1) (i := 0) (j := 0) (y := ps1.getD 0 rv0) (u := (ps1.getD 0 rv0).v) sz_sl_api_Value rfl (by repeat (first | exact List.mem_cons_self | apply List.mem_cons_of_mem)) (ha1 (by omega)) (getD_some (by omega)) (by omega) rfl) ?_
        refine RT.t (ob_move rfl) ?_
        refine RT.t (ob_indexAddr el_sl_sl_api_Value rfl (ha2 (by omega)) rfl (by omega) (by omega)) ?_
        refine RT.t (ob_loadG1 (enc := RV.c) (sz := 1) (i := 0) (j := 0) (y := ps2.getD 0 rv0) (u := (ps2.getD 0 rv0).v) sz_sl_api_Value rfl (by repeat (first | exact List.mem_cons_self | apply List.mem_cons_of_mem)) (ha2 (by omega)) (getD_some (by omega)) (by omega) rfl) ?_
        refine RT.t (ob_bRows2 (r0 := (ps1.getD 0 rv0).row) (r1 := (ps2.getD 0 rv0).row) sl_sl_sl_api_Value rfl (Sub.rv (p := ps1.getD 0 rv0) (getD_mem (by omega)) (by repeat (first | exact List.mem_cons_self | apply List.mem_cons_of_mem))) rfl (Sub.rv (p := ps2.getD 0 rv0) (getD_mem (by omega)) (by repeat (first | exact List.mem_cons_self | apply List.mem_cons_of_mem)))) ?_
        refine RT.t (ob_assign rfl) ?_
        refine RT.nil ?_
        refine FinS.nil0 ?_
        repeat (first | refine JX.next ?_ | refine JX.normal_block ?_)
        refine J.sel [10, 16] (.cons rfl (.cons rfl .nil)) ?_
        rw [hr1, hr2]
        have hgl : ∀ r ∈ [t4 (nn (vals.take k)), t4 (nn (vals.drop k))], r.length ≤ 1048576 := fun r hr => by
          simp only [List.mem_cons, List.not_mem_nil, or_false] at hr
          rcases hr with rfl | rfl
          · exact Nat.le_of_ble_eq_true rfl
          · exact Nat.le_of_ble_eq_true rfl
        have hgr : ∀ r ∈ [t4 (nn (vals.take k)), t4 (nn (vals.drop k))], ∀ v ∈ r, I64 v.n := fun r hr v hv2 => by
          simp only [List.mem_cons, List.not_mem_nil, or_false] at hr
          rcases hr with rfl | rfl
          · exact t4_rng (fun x hx => hv x (List.take_subset _ _ (nn_sub hx))) (nn_ne _) (by omega) s1 v hv2
          · exact t4_rng (fun x hx => hv x (List.drop_subset _ _ (nn_sub hx))) (nn_ne _) (by omega) s2 v hv2
        repeat refine J.seq ?_
        refine J.plain ?_
        refine JO.t (ob_call rfl c_law16_none2 .nil) rfl ?_
        refine JO.t (ob_move rfl) rfl ?_
        refine JO.t (ob_buildSlice (cs := [_, _, _, _]) sl_sl_int (by omega) (by omega) (.cons rfl (.cons rfl (.cons rfl (.cons rfl .nil)))) rfl rfl rfl) rfl ?_
        refine JO.t (ob_call rfl (c_group_Rows [[], []] [t4 (nn (vals.take k)), t4 (nn (vals.drop k))] kd5 true (by decide) (Nat.le_of_ble_eq_true rfl) hgl (fun r hr => by simp at hr; rw [hr]; exact Nat.zero_le _) (Nat.le_of_ble_eq_true rfl) hgr) (.one rfl (.one rfl (.sub rfl (Sub.newSlG kC_len rfl rfl) (.one rfl .nil))))) rfl ?_
        refine JO.t (ob_move rfl) rfl ?_
        refine JO.t (ob_extract0 rfl) rfl ?_
        refine JO.t (ob_extract1 rfl) rfl ?_
        refine JO.t (ob_assign rfl) rfl ?_
        refine JO.t (ob_assign rfl) rfl ?_
        refine JO.nil ?_
        repeat (first | refine JX.next ?_ | refine JX.normal_block ?_)
        refine J.sel [10, 17, 18] (.cons rfl (.cons rfl (.cons rfl .nil))) ?_
        have hnn : nn (vals.take k) ++ nn (vals.drop k) = nn vals := by rw [← nn_app, List.take_append_drop]
        rw [grp_both (by omega) (nn_ne _) (nn_ne _) (fun v h => o1 v (nn_sub h)) (fun v h => o2 v (nn_sub h)) (by rw [hnn]; exact s0), hnn]
        dsimp only
        repeat refine J.seq ?_
        refine J.reg0 hmx (by kernel_rfl) (by kernel_rfl) ?_
        refine RT.t (ob_move rfl) ?_
        refine RT.t (ob_eql rfl rfl) ?_
        refine RT.t (ob_move rfl) ?_
        refine RT.g rfl rfl rfl (fun hg => ob_move (.inl rfl)) ?_
        refine RT.g rfl rfl rfl (fun hg => ob_move (.inl rfl)) ?_
        refine RT.g rfl rfl rfl (fun hg => ob_call (.inl rfl) (c_ref15_Same [t4 (nn vals)] [t4 (nn vals)] (Nat.le_of_ble_eq_true rfl) (fun x hx => by rw [List.mem_singleton.1 hx]; exact Nat.le_of_ble_eq_true rfl)) (.one (.inr ⟨_, rfl, fun h => h⟩) (.one (.inr ⟨_, rfl, fun h => h⟩) .nil))) ?_
        refine RT.t (ob_pickAnd rfl rfl rfl id) ?_
        refine RT.t (ob_assign rfl) ?_
        refine RT.nil ?_
        refine FinS.nil0 ?_
        repeat (first | refine JX.next ?_ | refine JX.normal_block ?_)
        refine J.sel [4] (.cons rfl .nil) ?_
        repeat refine J.seq ?_
        refine J.ret ?_
        repeat (first | refine JX.ret_pass ?_ | refine JX.ret_block ?_)
        exact JX.ret1is rfl rfl (by first | rfl | (rw [(sameR_iff _ _).2 rfl]; rfl))
end Go.Proofs.Ytgpikmonklainaa
