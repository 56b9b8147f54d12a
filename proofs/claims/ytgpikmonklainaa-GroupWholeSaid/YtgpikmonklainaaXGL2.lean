/- group: the law of the whole. No condition. -/
import Derived.Test.YtgpikmonklainaaXGL1
set_option maxRecDepth 20000
namespace Go.Proofs.Ytgpikmonklainaa
open Go Go.Vc
open Go.Vl Go.Od
abbrev nul4 : List V3 := [v30, v30, v30, v30]
def kd4 : List Int := [20, 21, 22, 23]
def wK (k : Nat) : List (List V3) := List.replicate k []
def wA (k : Nat) : List (List V3) := List.replicate k nul4
def wR (k : Nat) (whole : Bool) : List (List V3) := if k == 0 && !whole then [] else [[nV 0, v30, v30, v30]]
theorem ddP_rep : ∀ k, ddP [] (List.replicate k []) = []
  | 0 => rfl
  | k + 1 => by
    rw [List.replicate_succ]
    show (if rowsC [] [] == 0 then ddP [] (List.replicate k []) else _) = _
    rw [rself, if_pos (by decide), ddP_rep k]
theorem keysD_w (k : Nat) (whole : Bool) : keysD (wK k) whole = if k == 0 && !whole then [] else [[]] := by
  unfold keysD wK
  have h1 : srt ltR (List.replicate k ([] : List V3)) = List.replicate k [] := List.perm_replicate.1 (srt_perm _)
  cases k with
  | zero => cases whole <;> rfl
  | succ k =>
    rw [h1, List.replicate_succ]
    show (if (whole && false) = true then _ else dd ([] :: List.replicate k [])) = _
    rw [Bool.and_false, if_neg (by decide)]
    show [] :: ddP [] (List.replicate k []) = _
    rw [ddP_rep]
    rfl
theorem cols_w (k : Nat) : cols 4 ((wK k).zip (wA k)) [] = [[], [], [], []] := by
  have h : ∀ j, nn (col ((wK k).zip (wA k)) [] j) = [] := fun j => by
    unfold nn
    rw [List.filter_eq_nil_iff]
    intro v hv
    obtain ⟨p, hp, rfl⟩ := col_mem hv
    have h2 : p.2 = nul4 := (List.mem_replicate.1 (List.of_mem_zip hp).2).2
    rw [h2]
    have : ∀ j, (nul4.getD j v3E).k = 0 := fun j => by
      match j with
      | 0 => rfl
      | 1 => rfl
      | 2 => rfl
      | 3 => rfl
      | j + 4 => rfl
    rw [this]
    decide
  unfold cols
  simp [List.range, List.range.loop, h]
theorem grp_w (k : Nat) (whole : Bool) : grpO (wK k) (wA k) kd4 whole = (wR k whole, 0) := by
  have h1 : chk (wK k) (wA k) kd4 = 0 := by
    have a1 : ((wK k).length != (wA k).length || kd4.any badK) = false := by
      unfold wK wA
      rw [List.length_replicate, List.length_replicate]
      simp [kd4, badK, kOk]
    have a2 : ((wK k).zip (wA k)).all (okR kd4) = true := by
      rw [List.all_eq_true]
      intro p hp
      have e1 : p.1 = [] := (List.mem_replicate.1 (List.of_mem_zip hp).1).2
      have e2 : p.2 = nul4 := (List.mem_replicate.1 (List.of_mem_zip hp).2).2
      unfold okR
      rw [e1, e2]
      simp [okV_0, kd4]
    have a3 : (wA k).any (bT kd4) = false := by
      rw [List.any_eq_false]
      intro r hr
      rw [(List.mem_replicate.1 hr).2]
      simp [bT, kd4, bt]
    unfold chk
    rw [a1, a2, a3]
    rfl
  unfold grpO
  rw [if_neg (by rw [h1]; decide), keysD_w]
  unfold cgD wR
  rw [show kd4.length = 4 from rfl]
  split
  · rfl
  · rw [List.map_singleton, cols_w]
    simp [outR, okT, rowT, tellsG, kd4, tellV, pkA]
def wC (k : Nat) (ps : List RV) : List Value := ps.map RV.v ++ List.replicate (k - ps.length) (.slice none 0 0)
theorem wC_zero (k : Nat) : List.replicate k (.slice none 0 0) = wC k [] := by simp [wC]
theorem wC_len {k : Nat} {ps : List RV} (h : ps.length ≤ k) : (wC k ps).length = k := by unfold wC; simp; omega
theorem wC_set {k : Nat} {ps : List RV} {p : RV} (h : ps.length < k) : splice (wC k ps) ps.length [p.v] = wC k (ps ++ [p]) := by
  unfold wC splice
  rw [List.take_left' (by simp), List.length_append, List.length_singleton, List.map_append]
  rw [show k - ps.length = (k - (ps.length + 1)) + 1 by omega, List.replicate_succ]
  have : (ps.map RV.v ++ Value.slice none 0 0 :: List.replicate (k - (ps.length + 1)) (.slice none 0 0)).drop (ps.length + 1) = List.replicate (k - (ps.length + 1)) (.slice none 0 0) := by
    rw [show ps.map RV.v ++ Value.slice none 0 0 :: List.replicate (k - (ps.length + 1)) (.slice none 0 0) = (ps.map RV.v ++ [.slice none 0 0]) ++ List.replicate (k - (ps.length + 1)) (.slice none 0 0) by simp]
    exact List.drop_left' (by simp)
  rw [this]
  simp
theorem wC_all {ps : List RV} : wC ps.length ps = ps.flatMap RV.c := by
  unfold wC
  rw [Nat.sub_self, List.replicate_zero, List.append_nil, flatC]
theorem Sub.rowsB {L : List Own} {Φ : List (World → Prop)} {n b : Nat} {ts : TypeId} {ps : List RV} {rows : List (List V3)} (hl : ps.length = n) (hm : ps.map RV.row = rows) (hH : HeapIs b (ps.flatMap RV.c) ts ∈ Φ) (hF : RVF ps ∈ Φ) : Sub L Φ (.is (.slice (some ⟨b, 0, none⟩) n n)) (.rep (RowsR noG rows)) := fun E v w hf e => by
  rw [show v = _ from e]
  intro w' hk
  have h1 := hf.2 _ hH w' hk
  have h3 : RowG RV.c 1 ps (some ⟨b, 0, none⟩) n w' := by
    obtain ⟨a, len, cap, e1, hr⟩ := sl_of_heap (enc := RV.c) (sz := 1) RV.c_len (n := n) hl (by rw [Nat.mul_one, List.take_of_length_le (by rw [flatC]; simp [hl])]) h1 n
    injection e1 with e1 e2 e3
    subst e1 e2
    exact hr
  exact ⟨ps, _, _, _, hm, rfl, Nat.le_refl _, h3, hf.2 _ hF w' hk, trivial⟩
theorem nul_row {b : Nat} {w : World} (h : HeapIs b (nul4.flatMap V3.cells) ty_api_Value w) : RowR nul4 (some ⟨b, 0, none⟩) 4 w := by
  obtain ⟨a, len, cap, e1, hr⟩ := sl_of_heap (enc := V3.cells) (sz := 3) v3_len (xs := nul4) (n := 4) rfl rfl h 4
  injection e1 with e1 e2 e3
  subst e1 e2
  exact hr
theorem wR_cases (k : Nat) (whole : Bool) : (k = 0 ∧ whole = false ∧ wR k whole = []) ∨ (¬ (k = 0 ∧ whole = false) ∧ wR k whole = [[nV 0, v30, v30, v30]]) := by
  unfold wR
  by_cases h : (k == 0 && !whole) = true
  · rw [if_pos h]
    simp at h
    exact .inl ⟨h.1, h.2, rfl⟩
  · rw [if_neg h]
    right
    refine ⟨fun e => h ?_, rfl⟩
    rw [e.1, e.2]
    rfl
theorem c_law16_GroupWhole (n : Int) (hn0 : 0 ≤ n) (hn1 : n < 256) (whole : Bool) : CallTy Try.prog f_law16_GroupWhole [.is (.int .u8 n), .is (.bool whole)] (.is (.bool true)) :=
  CallTy.of (fn := Try.f9) Try.func9 (n := 71) rfl rfl rfl (fun _ _ => by kernel_rfl) fun E W => by
  obtain ⟨k, hk, hk2⟩ : ∃ k : Nat, n.tmod 20 = (k : Int) ∧ k < 20 := ⟨(n.tmod 20).toNat, by rw [Int.tmod_eq_emod_of_nonneg hn0]; omega, by rw [Int.tmod_eq_emod_of_nonneg hn0]; omega⟩
  repeat refine J.seq ?_
  refine J.plain ?_
  refine JO.t (ob_assign rfl) rfl ?_
  refine JO.nil ?_
  repeat (first | refine JX.next ?_ | refine JX.normal_block ?_)
  refine J.sel [0, 1] (.cons rfl (.cons rfl .nil)) ?_
  repeat refine J.seq ?_
  refine J.plain ?_
  refine JO.t (ob_call rfl c_law16_awake .nil) rfl ?_
  refine JO.t (ob_not rfl) rfl ?_
  refine JO.nil ?_
  repeat (first | refine JX.next ?_ | refine JX.normal_block ?_)
  refine J.sel [0, 1, 11] (.cons rfl (.cons rfl (.cons rfl .nil))) ?_
  repeat refine J.seq ?_
  refine J.cond rfl (fun ht11 => ?_) (fun ht11 => ?_)
  ·
    try simp only [decide_eq_true_eq, decide_eq_false_iff_not] at ht11
    exfalso
    simp at ht11
  ·
    try simp only [decide_eq_true_eq, decide_eq_false_iff_not] at ht11
    refine J.skip ?_
    repeat (first | refine JX.next ?_ | refine JX.normal_block ?_)
    repeat refine J.seq ?_
    refine J.plain ?_
    refine JO.t (ob_move rfl) rfl ?_
    refine JO.t (ob_remv (v := ((k : Nat) : Int)) rfl rfl (by decide) hk) rfl ?_
    refine JO.t (ob_convIIe (cc := ((k : Nat) : Int)) ⟨_, un_uint8⟩ un_int rfl (wrap64_eq (by omega) (by omega))) rfl ?_
    refine JO.t (ob_assign rfl) rfl ?_
    refine JO.nil ?_
    repeat (first | refine JX.next ?_ | refine JX.normal_block ?_)
    refine J.sel [1, 5] (.cons rfl (.cons rfl .nil)) ?_
    repeat refine J.seq ?_
    refine J.plain ?_
    refine JO.t (ob_move rfl) rfl ?_
    refine JO.mkSl1 un_sl_sl_api_Value (n := k) (z := .slice none 0 0) (bytes := 24) (by kernel_rfl) rfl rfl rfl rfl rfl (by omega) (by omega) rfl (fun b16 => ?_)
    rw [wC_zero]
    refine JO.t (ob_assign rfl) rfl ?_
    refine JO.nil ?_
    repeat (first | refine JX.next ?_ | refine JX.normal_block ?_)
    refine J.sel [1, 5, 6] (.cons rfl (.cons rfl (.cons rfl .nil))) ?_
    repeat refine J.seq ?_
    refine J.plain ?_
    refine JO.t (ob_assign rfl) rfl ?_
    refine JO.nil ?_
    repeat (first | refine JX.next ?_ | refine JX.normal_block ?_)
    refine J.sel [1, 5, 6, 7] (.cons rfl (.cons rfl (.cons rfl (.cons rfl .nil)))) ?_
    repeat refine J.seq ?_
    refine J.block ?_
    repeat refine J.seq ?_
    refine J.loopG (α := List RV) (fun ps => [(1, .is (.bool whole)), (5, .is (.int .i64 (k : Nat))), (6, .is (.slice (some ⟨b16, 0, none⟩) k k)), (7, .is (.int .i64 (ps.length : Nat)))]) (fun ps => [⟨b16, ty_sl_api_Value, .is (.agg (wC k ps).toArray)⟩]) (fun ps => RVF ps) (fun ps => ps.length ≤ k ∧ ps.map RV.row = wA ps.length) (fun ps => k - ps.length) [] [1, 5, 6, 7] (.cons rfl (.cons rfl (.cons rfl (.cons rfl .nil)))) rfl (fun _ => fun p hp => absurd hp List.not_mem_nil) ⟨Nat.zero_le _, rfl⟩ fun ps ⟨hl, hr⟩ => ?_
    try dsimp only
    try dsimp only at hl
    try dsimp only at hr
    repeat refine J.seq ?_
    refine J.plain ?_
    refine JO.t (ob_move rfl) rfl ?_
    refine JO.t (ob_move rfl) rfl ?_
    refine JO.t (ob_lss rfl rfl) rfl ?_
    refine JO.nil ?_
    repeat (first | refine JX.next ?_ | refine JX.normal_block ?_)
    refine J.sel [1, 5, 6, 7, 19] (.cons rfl (.cons rfl (.cons rfl (.cons rfl (.cons rfl .nil))))) ?_
    repeat refine J.seq ?_
    refine J.cond rfl (fun ht19 => ?_) (fun ht19 => ?_)
    ·
      try simp only [decide_eq_true_eq, decide_eq_false_iff_not] at ht19
      refine J.skip ?_
      repeat (first | refine JX.next ?_ | refine JX.normal_block ?_)
      repeat refine J.seq ?_
      refine J.block ?_
      repeat refine J.seq ?_
      refine J.plain ?_
      refine JO.t (ob_move rfl) rfl ?_
      refine JO.t (ob_move rfl) rfl ?_
      refine JO.t (ob_build (cs := [_, _, _]) sh_api_Value .nil rfl rfl) rfl ?_
      refine JO.t (ob_build (cs := [_, _, _]) sh_api_Value .nil rfl rfl) rfl ?_
      refine JO.t (ob_build (cs := [_, _, _]) sh_api_Value .nil rfl rfl) rfl ?_
      refine JO.t (ob_build (cs := [_, _, _]) sh_api_Value .nil rfl rfl) rfl ?_
      refine JO.t (ob_buildSlice (cs := [_, _, _, _, _, _, _, _, _, _, _, _]) sl_sl_api_Value (by omega) (by omega) (.cons rfl (.cons rfl (.cons rfl (.cons rfl .nil)))) rfl rfl rfl) rfl ?_
      refine JO.t (ob_indexAddr el_sl_sl_api_Value rfl rfl rfl (by omega) (by omega)) rfl ?_
      refine JO.openNew (s := 28) rfl (fun b28 => ?_)
      refine JO.m (obm_storeF1 (cs := wC k ps) (cs' := wC k (ps ++ [RV.mk nul4 (some ⟨b28, 0, none⟩) 4 4])) rfl rfl rfl rfl (by repeat (first | exact .here | apply Upd.there)) (by rw [show 0 + Int.toNat ((ps.length : Nat) : Int) * 1 = ps.length by omega]; exact wC_set (p := RV.mk nul4 (some ⟨b28, 0, none⟩) 4 4) (by omega)) (Nat.ble_eq_true_of_le (by rw [wC_len hl]; omega)) ss_sl_api_Value) (by rfl) ?_
      refine JO.nil ?_
      repeat (first | refine JX.next ?_ | refine JX.normal_block ?_)
      refine J.sel [1, 5, 6, 7] (.cons rfl (.cons rfl (.cons rfl (.cons rfl .nil)))) ?_
      repeat refine J.seq ?_
      refine J.plain ?_
      refine JO.t (ob_move rfl) rfl ?_
      refine JO.t (ob_addc (cc := (((ps ++ [RV.mk nul4 (some ⟨b28, 0, none⟩) 4 4]).length : Nat) : Int)) rfl rfl (by rw [List.length_append, List.length_singleton]; omega) (by omega) (by rw [List.length_append, List.length_singleton]; omega)) rfl ?_
      refine JO.t (ob_assign rfl) rfl ?_
      refine JO.nil ?_
      repeat refine JX.normal_block ?_
      refine JX.roundG (x := ps) (ps ++ [RV.mk nul4 (some ⟨b28, 0, none⟩) 4 4]) ?_ ?_ [1, 5, 6, 7] ?_ ?_ ?_ ?_
      · exact ⟨by rw [List.length_append, List.length_singleton]; omega, by rw [List.map_append, List.length_append, List.length_singleton, hr]; unfold wA; rw [List.replicate_succ']; rfl⟩
      · exact (by rw [List.length_append, List.length_singleton]; omega)
      · exact (.cons rfl (.cons rfl (.cons rfl (.cons rfl .nil))))
      · repeat (first | exact .all | exact .nil | refine Has.own (by repeat (first | exact .here | apply Tl.past | apply Tl.there)) ?_ | refine Has.cons (by repeat (first | exact .here | apply Pk.past | apply Pk.there)) ?_)
      · exact fun G hG => by repeat (first | exact hG | refine List.mem_cons_of_mem _ ?_)
      · exact fun E w hF => fun w2 hk2 q hq => (List.mem_append.1 hq).elim (fun h => hF (RVF ps) (by repeat (first | exact List.mem_cons_self | apply List.mem_cons_of_mem)) w2 hk2 q h) (fun h => by rw [List.mem_singleton.1 h]; exact ⟨Nat.le_refl _, nul_row (hF (HeapIs b28 (nul4.flatMap V3.cells) ty_api_Value) (by repeat (first | exact List.mem_cons_self | apply List.mem_cons_of_mem)) w2 hk2)⟩)
    ·
      try simp only [decide_eq_true_eq, decide_eq_false_iff_not] at ht19
      repeat refine J.seq ?_
      refine J.exit ?_
      repeat (first | refine JX.hit ?_ | refine JX.miss rfl ?_ | refine JX.exit_pass ?_)
      repeat (first | refine JX.next ?_ | refine JX.normal_block ?_)
      have hkl : k = ps.length := by omega
      subst hkl
      rw [wC_all]
      refine J.freeze (b := b16) (e := ty_sl_api_Value) (cs := ps.flatMap RV.c) (fun _ h => h) rfl rfl ?_
      repeat refine J.seq ?_
      refine J.plain ?_
      refine JO.t (ob_move rfl) rfl ?_
      refine JO.mkSl1 un_sl_sl_api_Value (n := ps.length) (z := .slice none 0 0) (bytes := 24) (by kernel_rfl) rfl rfl rfl rfl rfl (by omega) (by omega) rfl (fun b32 => ?_)
      refine JO.freeze (b := b32) (e := ty_sl_api_Value) (cs := List.replicate ps.length (.slice none 0 0)) (fun _ h => h) rfl rfl ?_
      refine JO.t (ob_move rfl) rfl ?_
      refine JO.t (ob_buildSlice (cs := [_, _, _, _]) sl_sl_int (by omega) (by omega) (.cons rfl (.cons rfl (.cons rfl (.cons rfl .nil)))) rfl rfl rfl) rfl ?_
      refine JO.t (ob_move rfl) rfl ?_
      refine JO.t (ob_call rfl (c_group_Rows (wK ps.length) (wA ps.length) kd4 whole (by unfold wK; rw [List.length_replicate]; omega) (by unfold wA; rw [List.length_replicate]; omega) (fun r hr2 => by rw [(List.mem_replicate.1 hr2).2]; exact Nat.le_of_ble_eq_true rfl) (fun r hr2 => by rw [(List.mem_replicate.1 hr2).2]; exact Nat.zero_le _) (Nat.le_of_ble_eq_true rfl) (fun r hr2 v hv2 => by rw [(List.mem_replicate.1 hr2).2] at hv2; simp at hv2; rw [hv2]; exact ⟨by decide, by decide⟩)) (.sub rfl (Sub.rowsNone (by repeat (first | exact List.mem_cons_self | apply List.mem_cons_of_mem))) (.sub rfl (Sub.rowsB rfl hr (by repeat (first | exact List.mem_cons_self | apply List.mem_cons_of_mem)) (by repeat (first | exact List.mem_cons_self | apply List.mem_cons_of_mem))) (.sub rfl (Sub.newSlG kC_len rfl rfl) (.one rfl .nil))))) rfl ?_
      refine JO.t (ob_move rfl) rfl ?_
      refine JO.t (ob_extract0 rfl) rfl ?_
      refine JO.t (ob_extract1 rfl) rfl ?_
      refine JO.t (ob_assign rfl) rfl ?_
      refine JO.t (ob_assign rfl) rfl ?_
      refine JO.nil ?_
      repeat (first | refine JX.next ?_ | refine JX.normal_block ?_)
      refine J.sel [1, 5, 8, 9] (.cons rfl (.cons rfl (.cons rfl (.cons rfl .nil)))) ?_
      rw [grp_w]
      dsimp only
      repeat refine J.seq ?_
      refine J.reg0 hmx (by kernel_rfl) (by kernel_rfl) ?_
      refine RT.t (ob_move rfl) ?_
      refine RT.t (ob_neq rfl rfl) ?_
      refine RT.t (ob_move rfl) ?_
      refine RT.g rfl rfl rfl (fun hg => ob_move (.inl rfl)) ?_
      refine RT.g rfl rfl rfl (fun hg => ob_lenRows un_sl_sl_api_Value (.inr ⟨_, rfl, fun h => h⟩)) ?_
      refine RT.g rfl rfl rfl (fun hg => ob_eql (.inr ⟨_, rfl, fun h => h⟩) (.inl rfl)) ?_
      refine RT.g rfl rfl rfl (fun hg => ob_move (.inl rfl)) ?_
      refine RT.g rfl rfl rfl (fun hg => ob_eql (.inr ⟨_, rfl, fun h => h⟩) (.inl rfl)) ?_
      refine RT.g rfl rfl rfl (fun hg => ob_move (.inr ⟨_, rfl, fun h => h⟩)) ?_
      refine RT.gg rfl rfl rfl (fun hg => (ob_move (.inl rfl))) ?_
      refine RT.gg rfl rfl rfl (fun hg => (ob_not (.inr ⟨_, rfl, fun h => h⟩))) ?_
      refine RT.g rfl rfl rfl (fun hg => ob_pickAnd (.inr ⟨_, rfl, fun h => h⟩) (.inl rfl) (.inl rfl) (fun h => ⟨hg, h⟩)) ?_
      refine RT.g rfl rfl rfl (fun hg => ob_bneq un_bool (.inr ⟨_, rfl, fun h => h⟩) (.inr ⟨_, rfl, fun h => h⟩)) ?_
      refine RT.t (ob_pickOr rfl rfl rfl id) ?_
      refine RT.t (ob_move rfl) ?_
      refine RT.g rfl rfl rfl (fun hg => ob_move (.inl rfl)) ?_
      refine RT.g rfl rfl rfl (fun hg => ob_lenRows un_sl_sl_api_Value (.inr ⟨_, rfl, fun h => h⟩)) ?_
      refine RT.g rfl rfl rfl (fun hg => ob_gtr (.inr ⟨_, rfl, fun h => h⟩) (.inl rfl)) ?_
      refine RT.t (ob_pickOr rfl rfl rfl id) ?_
      refine RT.nil ?_
      refine FinS.nil0 ?_
      repeat (first | refine JX.next ?_ | refine JX.normal_block ?_)
      refine J.sel [8, 57] (.cons rfl (.cons rfl .nil)) ?_
      repeat refine J.seq ?_
      refine J.cond rfl (fun ht57 => ?_) (fun ht57 => ?_)
      ·
        try simp only [decide_eq_true_eq, decide_eq_false_iff_not] at ht57
        exfalso
        rcases wR_cases ps.length whole with ⟨e1, e2, e3⟩ | ⟨e1, e3⟩
        · rw [e1, e2] at ht57
          rw [e1, e2] at e3
          rw [e3] at ht57
          simp at ht57
        · rw [e3] at ht57
          cases whole
          · have : ps.length ≠ 0 := fun h => e1 ⟨h, rfl⟩
            simp at ht57
            exact this (by simp [ht57])
          · simp at ht57
      ·
        try simp only [decide_eq_true_eq, decide_eq_false_iff_not] at ht57
        refine J.skip ?_
        repeat (first | refine JX.next ?_ | refine JX.normal_block ?_)
        repeat refine J.seq ?_
        refine J.reg0 hmx (by kernel_rfl) (by kernel_rfl) ?_
        refine RT.t (ob_move rfl) ?_
        refine RT.t (ob_lenRows un_sl_sl_api_Value rfl) ?_
        refine RT.t (ob_eql rfl rfl) ?_
        refine RT.t (ob_move rfl) ?_
        refine RT.g rfl rfl rfl (fun hg => ob_move (.inl rfl)) ?_
        refine RT.g rfl rfl rfl (fun hg => ob_call (.inl rfl) (c_law16_num 0) (.one (.inl rfl) .nil)) ?_
        refine RT.g rfl rfl rfl (fun hg => ob_build (cs := [_, _, _]) sh_api_Value .nil rfl rfl) ?_
        refine RT.g rfl rfl rfl (fun hg => ob_build (cs := [_, _, _]) sh_api_Value .nil rfl rfl) ?_
        refine RT.g rfl rfl rfl (fun hg => ob_build (cs := [_, _, _]) sh_api_Value .nil rfl rfl) ?_
        refine RT.g rfl rfl rfl (fun hg => ob_buildSlice (cs := [_, _, _, _, _, _, _, _, _, _, _, _]) sl_sl_api_Value (by omega) (by omega) (.cons (.inr ⟨_, rfl, fun h => h⟩) (.cons (.inr ⟨_, rfl, fun h => h⟩) (.cons (.inr ⟨_, rfl, fun h => h⟩) (.cons (.inr ⟨_, rfl, fun h => h⟩) .nil)))) rfl rfl rfl) ?_
        refine RT.g rfl rfl rfl (fun hg => ob_bRows1 (r0 := [nV 0, v30, v30, v30]) sl_sl_sl_api_Value (.inr ⟨_, rfl, fun h => h⟩) (Sub.newSlC v3_len rfl rfl (Nat.le_refl _))) ?_
        refine RT.g rfl rfl rfl (fun hg => ob_call (.inl rfl) (c_ref15_Same (wR ps.length whole) [[nV 0, v30, v30, v30]] (by rcases wR_cases ps.length whole with ⟨_, _, e⟩ | ⟨_, e⟩ <;> rw [e] <;> decide) (by rcases wR_cases ps.length whole with ⟨_, _, e⟩ | ⟨_, e⟩ <;> rw [e] <;> simp)) (.one (.inr ⟨_, rfl, fun h => h⟩) (.one (.inr ⟨_, rfl, fun h => h⟩) .nil))) ?_
        refine RT.t (ob_pickOr rfl rfl rfl id) ?_
        refine RT.t (ob_assign rfl) ?_
        refine RT.nil ?_
        refine FinS.nil0 ?_
        repeat (first | refine JX.next ?_ | refine JX.normal_block ?_)
        refine J.sel [4] (.cons rfl .nil) ?_
        repeat refine J.seq ?_
        refine J.ret ?_
        repeat (first | refine JX.ret_pass ?_ | refine JX.ret_block ?_)
        exact JX.ret1is rfl rfl (by
        rcases wR_cases ps.length whole with ⟨e1, e2, e3⟩ | ⟨e1, e3⟩ <;> rw [e3] <;> simp [(sameR_iff _ _).2])
end Go.Proofs.Ytgpikmonklainaa
