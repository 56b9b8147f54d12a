/- The document on groups: Rows. No condition. -/
import Derived.Test.YtgpikmonklainaaXGYb
set_option maxRecDepth 20000
namespace Go.Proofs.Ytgpikmonklainaa
open Go Go.Vc
open Go.Vl Go.Od
set_option maxHeartbeats 1000000 in
theorem c_ref16_Rows (keys args : List (List V3)) (ks : List Int) (whole : Bool) (hn : keys.length ≤ 1048575) (hn2 : args.length ≤ 1048576) (hR : ∀ r ∈ args, r.length ≤ 1048576) (hK : ∀ r ∈ keys, r.length ≤ 1048576) (hks : ks.length ≤ 1048576) (hv : ∀ r ∈ args, ∀ v ∈ r, I64 v.n) : CallTy Try.prog f_ref16_Rows [.rep (RowsR noG keys), .rep (RowsR noG args), .rep (SlG kC 1 ks), .is (.bool whole)] (.tup2 (.rep (RowsR noG (grpO keys args ks whole).1)) (.is (.int .i64 (grpO keys args ks whole).2))) :=
  CallTy.of (fn := Try.f18) Try.func18 (n := 125) rfl rfl rfl (fun _ _ => by kernel_rfl) fun E W => by
  refine J.openRows (s := 0) rfl (fun kps ka kl kc kb ko hkm hkl hkc hka => ?_)
  refine J.openRows (s := 1) rfl (fun aps aa al ac ab ao ham hal hac haa => ?_)
  refine J.openSl (enc := kC) (sz := 1) (s := 2) rfl (fun da dl dcap db dof hdl hda => ?_)
  subst hdl hkl hal hkm ham
  refine J.know (∀ p ∈ aps, p.row.length = p.len) (fun E w hG _ => fun p hp => ((hG (RVF aps) (by repeat (first | exact List.mem_cons_self | apply List.mem_cons_of_mem))).now p hp).2.1) (fun hkn => ?_)
  have hn' := hn
  have hn2' := hn2
  rw [List.length_map] at hn' hn2' 
  repeat refine J.seq ?_
  refine J.plain ?_
  refine JO.t (ob_assign rfl) rfl ?_
  refine JO.t (ob_assign rfl) rfl ?_
  refine JO.nil ?_
  repeat (first | refine JX.next ?_ | refine JX.normal_block ?_)
  refine J.sel [0, 1, 2, 3] (.cons rfl (.cons rfl (.cons rfl (.cons rfl .nil)))) ?_
  repeat refine J.seq ?_
  refine J.plain ?_
  refine JO.t (ob_move rfl) rfl ?_
  refine JO.t (ob_move rfl) rfl ?_
  refine JO.t (ob_move rfl) rfl ?_
  refine JO.t (ob_call rfl (c_ref16_check (kps.map RV.row) (aps.map RV.row) ks hn2 hR hK hks) (.sub rfl (Sub.rowsF (by repeat (first | exact List.mem_cons_self | apply List.mem_cons_of_mem)) (by repeat (first | exact List.mem_cons_self | apply List.mem_cons_of_mem)) hkc rfl) (.sub rfl (Sub.rowsF (by repeat (first | exact List.mem_cons_self | apply List.mem_cons_of_mem)) (by repeat (first | exact List.mem_cons_self | apply List.mem_cons_of_mem)) hac rfl) (.sub rfl (Sub.slFact (by repeat (first | exact List.mem_cons_self | apply List.mem_cons_of_mem))) .nil)))) rfl ?_
  refine JO.t (ob_assign rfl) rfl ?_
  refine JO.nil ?_
  repeat (first | refine JX.next ?_ | refine JX.normal_block ?_)
  refine J.sel [0, 1, 2, 3, 10] (.cons rfl (.cons rfl (.cons rfl (.cons rfl (.cons rfl .nil))))) ?_
  repeat refine J.seq ?_
  refine J.plain ?_
  refine JO.t (ob_move rfl) rfl ?_
  refine JO.t (ob_neq rfl rfl) rfl ?_
  refine JO.nil ?_
  repeat (first | refine JX.next ?_ | refine JX.normal_block ?_)
  refine J.sel [0, 1, 2, 3, 10, 27] (.cons rfl (.cons rfl (.cons rfl (.cons rfl (.cons rfl (.cons rfl .nil)))))) ?_
  repeat refine J.seq ?_
  refine J.cond rfl (fun ht27 => ?_) (fun ht27 => ?_)
  ·
    try simp only [decide_eq_true_eq, decide_eq_false_iff_not] at ht27
    repeat refine J.seq ?_
    refine J.plain ?_
    refine JO.t (ob_move rfl) rfl ?_
    refine JO.t (ob_assign rfl) rfl ?_
    refine JO.t (ob_assign rfl) rfl ?_
    refine JO.nil ?_
    repeat (first | refine JX.next ?_ | refine JX.normal_block ?_)
    refine J.sel [8, 9] (.cons rfl (.cons rfl .nil)) ?_
    repeat refine J.seq ?_
    refine J.ret ?_
    repeat (first | refine JX.ret_pass ?_ | refine JX.ret_block ?_)
    have hg0 : grpO (kps.map RV.row) (aps.map RV.row) ks whole = ([], chk (kps.map RV.row) (aps.map RV.row) ks) := by unfold grpO; rw [if_pos (by simpa using ht27)]
    exact JX.ret2sub rfl rfl rfl (by rw [hg0]; exact Sub.rowsNil) rfl (Sub.isEq (by rw [hg0]))
  ·
    try simp only [decide_eq_true_eq, decide_eq_false_iff_not] at ht27
    refine J.skip ?_
    repeat (first | refine JX.next ?_ | refine JX.normal_block ?_)
    have hc0 : chk (kps.map RV.row) (aps.map RV.row) ks = 0 := by simpa using ht27
    obtain ⟨hkl0, hkk, hal0⟩ := chk_ok hc0
    have hkok := chk_keys hc0
    rw [List.length_map, List.length_map] at hkl0
    have hbK : ∀ p ∈ kps, p.row.length ≤ 1048576 := fun p hp => hK _ (List.mem_map_of_mem hp)
    repeat refine J.seq ?_
    refine J.plain ?_
    refine JO.t (ob_move rfl) rfl ?_
    refine JO.t (ob_len un_sl_sl_api_Value rfl) rfl ?_
    refine JO.mkSl1 un_sl_sl_api_Value (n := kps.length) (z := .slice none 0 0) (bytes := 24) (by kernel_rfl) rfl rfl rfl rfl rfl (by omega) (by omega) rfl (fun b31 => ?_)
    refine JO.t (ob_assign rfl) rfl ?_
    refine JO.nil ?_
    repeat (first | refine JX.next ?_ | refine JX.normal_block ?_)
    refine J.sel [0, 1, 2, 3, 11] (.cons rfl (.cons rfl (.cons rfl (.cons rfl (.cons rfl .nil))))) ?_
    refine J.freeze (b := b31) (e := ty_sl_api_Value) (cs := List.replicate kps.length (.slice none 0 0)) (fun _ h => h) rfl rfl ?_
    repeat refine J.seq ?_
    refine J.plain ?_
    refine JO.t (ob_move rfl) rfl ?_
    refine JO.t (ob_move rfl) rfl ?_
    refine JO.t (ob_call rfl (c_ref15_Top_n (kps.map RV.row) (List.replicate kps.length []) [] (-1) (by omega) hK (fun r hr => by rw [(List.mem_replicate.1 hr).2]; exact Nat.zero_le _) (Nat.zero_le _)) (.sub rfl (Sub.rowsF (by repeat (first | exact List.mem_cons_self | apply List.mem_cons_of_mem)) (by repeat (first | exact List.mem_cons_self | apply List.mem_cons_of_mem)) hkc rfl) (.sub rfl (Sub.rowsNone (by repeat (first | exact List.mem_cons_self | apply List.mem_cons_of_mem))) (.sub rfl Sub.slNil (.one rfl .nil))))) rfl ?_
    refine JO.t (ob_move rfl) rfl ?_
    refine JO.t (ob_extract0 rfl) rfl ?_
    refine JO.t (ob_extract1 rfl) rfl ?_
    refine JO.t (ob_assign rfl) rfl ?_
    refine JO.t (ob_assign rfl) rfl ?_
    refine JO.nil ?_
    repeat (first | refine JX.next ?_ | refine JX.normal_block ?_)
    refine J.sel [0, 1, 2, 3, 12] (.cons rfl (.cons rfl (.cons rfl (.cons rfl (.cons rfl .nil))))) ?_
    obtain ⟨S0, hS0⟩ : ∃ S0, S0 = srt ltR (kps.map RV.row) := ⟨_, rfl⟩
    have htop := top_srt hkok
    rw [List.length_map, ← hS0] at htop
    rw [htop]
    repeat refine J.seq ?_
    refine J.reg0 hmx (by kernel_rfl) (by kernel_rfl) ?_
    refine RT.t (ob_move rfl) ?_
    refine RT.t (ob_move rfl) ?_
    refine RT.g rfl rfl rfl (fun hg => ob_move (.inl rfl)) ?_
    refine RT.g rfl rfl rfl (fun hg => ob_lenRows un_sl_sl_api_Value (.inr ⟨_, rfl, fun h => h⟩)) ?_
    refine RT.g rfl rfl rfl (fun hg => ob_eql (.inr ⟨_, rfl, fun h => h⟩) (.inl rfl)) ?_
    refine RT.t (ob_pickAnd rfl rfl rfl id) ?_
    refine RT.nil ?_
    refine FinS.nil0 ?_
    repeat (first | refine JX.next ?_ | refine JX.normal_block ?_)
    refine J.sel [0, 1, 2, 12, 43] (.cons rfl (.cons rfl (.cons rfl (.cons rfl (.cons rfl .nil))))) ?_
    repeat refine J.seq ?_
    refine J.cutZN (fun z : List (List V3) => [(0, .is (.slice ka kps.length kc)), (1, .is (.slice aa aps.length ac)), (2, .is (.slice da ks.length dcap)), (12, .rep (RowsR noG z))]) (fun z : List (List V3) => []) (fun z : List (List V3) => z = (if whole && S0.isEmpty then [[]] else S0)) ?_ ?_
    · refine J.cond rfl (fun ht43 => ?_) (fun ht43 => ?_)
      ·
        try simp only [decide_eq_true_eq, decide_eq_false_iff_not] at ht43
        have hw : whole = true ∧ S0 = [] := by
          rw [Bool.and_eq_true, beq_iff_eq] at ht43
          exact ⟨ht43.1, List.length_eq_zero_iff.1 (by omega)⟩
        refine J.openRows (s := 12) rfl (fun ps0 a0 l0 c0 b0 o0 hm0 hl0 hc0 ha0 => ?_)
        have hl00 : l0 = 0 := by rw [← hl0, ← List.length_map (f := RV.row), hm0, hw.2]; rfl
        refine J.know (a0 = none ∧ c0 = 0) (fun E w hG _ => (hG (nG ps0 a0 l0 c0) (by repeat (first | exact List.mem_cons_self | apply List.mem_cons_of_mem))).now hl00) (fun ⟨ha00, hc00⟩ => ?_)
        subst hl00 ha00 hc00
        repeat refine J.seq ?_
        refine J.plain ?_
        refine JO.t (ob_move rfl) rfl ?_
        refine JO.t (ob_buildSlice (cs := [_]) sl_sl_sl_api_Value (by omega) (by omega) (.cons rfl .nil) rfl rfl rfl) rfl ?_
        refine JO.apN (en := RV.c) [rv0] ap_sl_sl_api_Value rfl rfl (src_new un_sl_sl_api_Value rfl rfl) (by simp) (by simp) rfl (fun st1 cp1 hG1 => ?_)
        refine JO.t (ob_assign rfl) rfl ?_
        refine JO.nil ?_
        refine JX.freezeO RV.c_len hG1 (e := ty_sl_api_Value) (by repeat (first | exact .here | apply Tl.past | apply Tl.there)) (fun _ h => h) rfl rfl ?_
        refine JX.fact (RVF [rv0]) (fun E w _ _ => fun w2 _ q hq => by rw [List.mem_singleton.1 hq]; exact ⟨Nat.le_refl _, rfl, fun h => absurd rfl h⟩) ?_
        refine JX.coer (s := 12) (T' := .rep (RowsR noG [[]])) rfl (Sub.rowsO hG1 (by repeat (first | exact List.mem_cons_self | apply List.mem_cons_of_mem)) (rps := [rv0]) (by repeat (first | exact List.mem_cons_self | apply List.mem_cons_of_mem)) (fun _ h => h) rfl) ?_
        refine JX.midZ ([[]]) ?_ [0, 1, 2, 12] ?_ ?_ ?_
        · exact by rw [hw.1, hw.2]; rfl
        · exact (.cons rfl (.cons rfl (.cons rfl (.cons rfl .nil))))
        · repeat (first | exact .all | exact .nil | refine Has.own (by repeat (first | exact .here | apply Tl.past | apply Tl.there)) ?_ | refine Has.cons (by repeat (first | exact .here | apply Pk.past | apply Pk.there)) ?_)
        · exact fun G hG => by repeat (first | exact hG | refine List.mem_cons_of_mem _ ?_)
      ·
        try simp only [decide_eq_true_eq, decide_eq_false_iff_not] at ht43
        refine J.skip ?_
        refine JX.coer (s := 12) (T' := .rep (RowsR noG S0)) rfl Sub.rowsNG ?_
        refine JX.midZ (S0) ?_ [0, 1, 2, 12] ?_ ?_ ?_
        · exact by rw [if_neg (fun h => by rw [Bool.and_eq_true, List.isEmpty_iff] at h; rw [h.1, h.2] at ht43; cases ht43)]
        · exact (.cons rfl (.cons rfl (.cons rfl (.cons rfl .nil))))
        · repeat (first | exact .all | exact .nil | refine Has.own (by repeat (first | exact .here | apply Tl.past | apply Tl.there)) ?_ | refine Has.cons (by repeat (first | exact .here | apply Pk.past | apply Pk.there)) ?_)
        · exact fun G hG => by repeat (first | exact hG | refine List.mem_cons_of_mem _ ?_)
    · intro S2 hS2
      try dsimp only
      obtain ⟨pz, hpz⟩ : ∃ pz, pz = (kps.map RV.row).zip (aps.map RV.row) := ⟨_, rfl⟩
      have hpi : ∀ i, i < kps.length → pz[i]? = some ((kps.getD i rv0).row, (aps.getD i rv0).row) := fun i hi => by rw [hpz]; exact zip_row hi (by omega)
      obtain ⟨D, hDd⟩ : ∃ D, D = keysD (kps.map RV.row) whole := ⟨_, rfl⟩
      have hD0 : [] ++ restK S2 0 = D := by rw [hDd, keysD_dd, ← hS0, ← hS2]; rfl
      have hgr : grpO (kps.map RV.row) (aps.map RV.row) ks whole = outR ks (D.map fun key => (key, cols ks.length pz key)) := by
        unfold grpO
        rw [if_neg (by rw [hc0]; decide), hDd, hpz]
        rfl
      have hS2b : ∀ r ∈ S2, r.length ≤ 1048576 := fun r hr => by
        rw [hS2] at hr
        split at hr
        · rw [List.mem_singleton.1 hr]; exact Nat.zero_le _
        · rw [hS0] at hr; exact hK _ ((srt_perm _).mem_iff.1 hr)
      have hS2l : S2.length ≤ 1048575 := by
        rw [hS2]
        split
        · simp
        · rw [hS0, srt_len, List.length_map]; omega
      refine J.openRows (s := 12) rfl (fun sps sa sl sc sb so hsm hsl hsc hsa => ?_)
      subst hsl
      have hspl : sps.length ≤ 1048575 := by rw [← List.length_map (f := RV.row), hsm]; exact hS2l
      repeat refine J.seq ?_
      refine J.plain ?_
      refine JO.t (ob_assign rfl) rfl ?_
      refine JO.nil ?_
      repeat (first | refine JX.next ?_ | refine JX.normal_block ?_)
      refine J.sel [0, 1, 2, 12, 14] (.cons rfl (.cons rfl (.cons rfl (.cons rfl (.cons rfl .nil))))) ?_
      repeat refine J.seq ?_
      refine J.plain ?_
      refine JO.t (ob_assign rfl) rfl ?_
      refine JO.nil ?_
      repeat (first | refine JX.next ?_ | refine JX.normal_block ?_)
      refine J.sel [0, 1, 2, 12, 14, 15] (.cons rfl (.cons rfl (.cons rfl (.cons rfl (.cons rfl (.cons rfl .nil)))))) ?_
      repeat refine J.seq ?_
      refine J.block ?_
      repeat refine J.seq ?_
      refine J.loopG (α := List RV × Option (Nat × List Value) × Nat × Nat × List (List V3)) (fun y => [(0, .is (.slice ka kps.length kc)), (1, .is (.slice aa aps.length ac)), (2, .is (.slice da ks.length dcap)), (12, .is (.slice sa sps.length sc)), (14, .is (sliceO y.2.1 y.1.length y.2.2.1)), (15, .is (.int .i64 (y.2.2.2.1 : Nat)))]) (fun y => ownO y.2.1 ty_sl_api_Value []) (fun y => RVF y.1) (fun y => Grows RV.c 1 y.1 y.2.1 y.2.2.1 ∧ y.2.2.2.1 ≤ sps.length ∧ y.1.map RV.row = y.2.2.2.2.map (fun key => rowT ks (key, cols ks.length pz key)) ∧ (∀ key ∈ y.2.2.2.2, okT ks (key, cols ks.length pz key) = true) ∧ y.2.2.2.2 ++ restK S2 y.2.2.2.1 = D ∧ y.1.length ≤ y.2.2.2.1) (fun y => sps.length - y.2.2.2.1) ([], none, 0, 0, []) [0, 1, 2, 12, 14, 15] (.cons rfl (.cons rfl (.cons rfl (.cons rfl (.cons rfl (.cons rfl .nil)))))) rfl (fun _ => fun p hp => absurd hp List.not_mem_nil) ⟨rfl, Nat.zero_le _, rfl, fun _ h => absurd h List.not_mem_nil, hD0, Nat.le_refl _⟩ fun ⟨ops, sto, cpo, n, dn⟩ ⟨hGo, hns0, hor, hook, hdn, hol⟩ => ?_
      try dsimp only
      try dsimp only at sto
      try dsimp only at cpo
      try dsimp only at n
      try dsimp only at dn
      try dsimp only at hGo
      try dsimp only at hns0
      try dsimp only at hor
      try dsimp only at hook
      try dsimp only at hdn
      try dsimp only at hol
      repeat refine J.seq ?_
      refine J.plain ?_
      refine JO.t (ob_move rfl) rfl ?_
      refine JO.t (ob_move rfl) rfl ?_
      refine JO.t (ob_len un_sl_sl_api_Value rfl) rfl ?_
      refine JO.t (ob_lss rfl rfl) rfl ?_
      refine JO.nil ?_
      repeat (first | refine JX.next ?_ | refine JX.normal_block ?_)
      refine J.sel [0, 1, 2, 12, 14, 15, 50] (.cons rfl (.cons rfl (.cons rfl (.cons rfl (.cons rfl (.cons rfl (.cons rfl .nil))))))) ?_
      repeat refine J.seq ?_
      refine J.cond rfl (fun ht50 => ?_) (fun ht50 => ?_)
      ·
        try simp only [decide_eq_true_eq, decide_eq_false_iff_not] at ht50
        refine J.skip ?_
        repeat (first | refine JX.next ?_ | refine JX.normal_block ?_)
        repeat refine J.seq ?_
        refine J.block ?_
        have hns : n < sps.length := by omega
        have hsl2 : S2.length = sps.length := by rw [← hsm, List.length_map]
        have hSb : ∀ i, i < sps.length → (sps.getD i rv0).row.length ≤ 1048576 := fun i hi => hS2b _ (by rw [← hsm]; exact List.mem_map_of_mem (getD_mem hi))
        repeat refine J.seq ?_
        refine J.reg0 hmx (by kernel_rfl) (by kernel_rfl) ?_
        refine RT.t (ob_move rfl) ?_
        refine RT.t (ob_gtr rfl rfl) ?_
        refine RT.t (ob_move rfl) ?_
        refine RT.g rfl rfl rfl (fun hg => ob_move (.inl rfl)) ?_
        refine RT.g rfl rfl rfl (fun hg => ob_move (.inl rfl)) ?_
        refine RT.g rfl rfl rfl (fun hg => ob_subc (cc := ((n - 1 : Nat) : Int)) (.inr ⟨_, rfl, fun h => h⟩) (.inl rfl) (by simp at hg; omega) (by omega) (by omega)) ?_
        refine RT.g rfl rfl rfl (fun hg => ob_indexAddr el_sl_sl_api_Value (.inr ⟨_, rfl, fun h => h⟩) (hsa (by omega)) (.inr ⟨_, rfl, fun h => h⟩) (by omega) (by omega)) ?_
        refine RT.g rfl rfl rfl (fun hg => ob_loadG1 (enc := RV.c) (sz := 1) (i := n - 1) (j := 0) (y := sps.getD (n - 1) rv0) (u := (sps.getD (n - 1) rv0).v) sz_sl_api_Value (.inr ⟨_, rfl, fun h => h⟩) (by repeat (first | exact List.mem_cons_self | apply List.mem_cons_of_mem)) (hsa (by omega)) (getD_some (by omega)) (by omega) rfl) ?_
        refine RT.g rfl rfl rfl (fun hg => ob_move (.inl rfl)) ?_
        refine RT.g rfl rfl rfl (fun hg => ob_move (.inl rfl)) ?_
        refine RT.g rfl rfl rfl (fun hg => ob_indexAddr el_sl_sl_api_Value (.inr ⟨_, rfl, fun h => h⟩) (hsa (by omega)) (.inr ⟨_, rfl, fun h => h⟩) (by omega) (by omega)) ?_
        refine RT.g rfl rfl rfl (fun hg => ob_loadG1 (enc := RV.c) (sz := 1) (i := n) (j := 0) (y := sps.getD (n) rv0) (u := (sps.getD (n) rv0).v) sz_sl_api_Value (.inr ⟨_, rfl, fun h => h⟩) (by repeat (first | exact List.mem_cons_self | apply List.mem_cons_of_mem)) (hsa (by omega)) (getD_some (by omega)) (by omega) rfl) ?_
        refine RT.g rfl rfl rfl (fun hg => ob_call (.inl rfl) (c_ref01_Same (sps.getD (n - 1) rv0).row (sps.getD n rv0).row (by have := hSb (n - 1) (by omega); omega)) (.sub (.inr ⟨_, rfl, fun h => h⟩) (Sub.rvS (p := sps.getD (n - 1) rv0) (getD_mem (by omega)) (by repeat (first | exact List.mem_cons_self | apply List.mem_cons_of_mem))) (.sub (.inr ⟨_, rfl, fun h => h⟩) (Sub.rvS (p := sps.getD (n) rv0) (getD_mem (by omega)) (by repeat (first | exact List.mem_cons_self | apply List.mem_cons_of_mem))) .nil))) ?_
        refine RT.t (ob_pickAnd rfl rfl rfl id) ?_
        refine RT.nil ?_
        refine FinS.nil0 ?_
        repeat (first | refine JX.next ?_ | refine JX.normal_block ?_)
        refine J.sel [0, 1, 2, 12, 14, 15, 66] (.cons rfl (.cons rfl (.cons rfl (.cons rfl (.cons rfl (.cons rfl (.cons rfl .nil))))))) ?_
        repeat refine J.seq ?_
        refine J.cond rfl (fun ht66 => ?_) (fun ht66 => ?_)
        ·
          try simp only [decide_eq_true_eq, decide_eq_false_iff_not] at ht66
          repeat refine J.seq ?_
          refine J.exit ?_
          repeat (first | refine JX.hit ?_ | refine JX.miss rfl ?_ | refine JX.exit_pass ?_)
          repeat (first | refine JX.next ?_ | refine JX.normal_block ?_)
          simp only [Bool.and_eq_true, decide_eq_true_eq] at ht66
          have hsame : S2.getD (n - 1) [] = S2.getD n [] := by rw [← hsm, rowD (by omega), rowD hns]; exact (sameV_iff _ _).1 ht66.2
          repeat refine J.seq ?_
          refine J.plain ?_
          refine JO.t (ob_move rfl) rfl ?_
          refine JO.t (ob_addc (cc := ((n + 1 : Nat) : Int)) rfl rfl (by omega) (by omega) (by omega)) rfl ?_
          refine JO.t (ob_assign rfl) rfl ?_
          refine JO.nil ?_
          repeat refine JX.normal_block ?_
          refine JX.roundG (x := (ops, sto, cpo, n, dn)) (ops, sto, cpo, n + 1, dn) ?_ ?_ [0, 1, 2, 12, 14, 15] ?_ ?_ ?_ ?_
          · exact ⟨hGo, by show n + 1 ≤ sps.length; omega, hor, hook, by
    show dn ++ restK S2 (n + 1) = D
    rw [← hdn, restK_same (i := n) (by omega) (by omega) hsame], by show ops.length ≤ n + 1; omega⟩
          · exact (by show sps.length - (n + 1) < sps.length - n; omega)
          · exact (.cons rfl (.cons rfl (.cons rfl (.cons rfl (.cons rfl (.cons rfl .nil))))))
          · repeat (first | exact .all | exact .nil | refine Has.own (by repeat (first | exact .here | apply Tl.past | apply Tl.there)) ?_ | refine Has.cons (by repeat (first | exact .here | apply Pk.past | apply Pk.there)) ?_)
          · exact fun G hG => by repeat (first | exact hG | refine List.mem_cons_of_mem _ ?_)
          · exact fun E w hF => hF (RVF ops) (by repeat (first | exact List.mem_cons_self | apply List.mem_cons_of_mem))
        ·
          try simp only [decide_eq_true_eq, decide_eq_false_iff_not] at ht66
          refine J.skip ?_
          repeat (first | refine JX.next ?_ | refine JX.normal_block ?_)
          obtain ⟨key, hkey⟩ : ∃ key, key = (sps.getD n rv0).row := ⟨_, rfl⟩
          have hkb : key.length ≤ 1048576 := by rw [hkey]; exact hSb n hns
          refine J.fact (RowG V3.cells 3 key (sps.getD n rv0).a (sps.getD n rv0).len) (fun E w hG _ => fun w2 hk => by rw [hkey]; exact (hG (RVF sps) (by repeat (first | exact List.mem_cons_self | apply List.mem_cons_of_mem)) w2 hk _ (getD_mem hns)).2) ?_
          repeat refine J.seq ?_
          refine J.plain ?_
          refine JO.t (ob_assign rfl) rfl ?_
          refine JO.nil ?_
          repeat (first | refine JX.next ?_ | refine JX.normal_block ?_)
          refine J.sel [0, 1, 2, 12, 14, 15, 16] (.cons rfl (.cons rfl (.cons rfl (.cons rfl (.cons rfl (.cons rfl (.cons rfl .nil))))))) ?_
          repeat refine J.seq ?_
          refine J.plain ?_
          refine JO.t (ob_move rfl) rfl ?_
          refine JO.t (ob_move rfl) rfl ?_
          refine JO.t (ob_move rfl) rfl ?_
          refine JO.t (ob_indexAddr el_sl_sl_api_Value rfl (hsa (by omega)) rfl (by omega) (by omega)) rfl ?_
          refine JO.t (ob_loadG1 (enc := RV.c) (sz := 1) (i := n) (j := 0) (y := sps.getD (n) rv0) (u := (sps.getD (n) rv0).v) sz_sl_api_Value rfl (by repeat (first | exact List.mem_cons_self | apply List.mem_cons_of_mem)) (hsa (by omega)) (getD_some (by omega)) (by omega) rfl) rfl ?_
          refine JO.apN (en := V3.cells) key ap_sl_api_Value rfl rfl (src_slF v3_len (by omega) v3_one un_sl_api_Value (by repeat (first | exact List.mem_cons_self | apply List.mem_cons_of_mem))) (by omega) (by omega) rfl (fun st1 cp1 hG1 => ?_)
          refine JO.t (ob_assign rfl) rfl ?_
          refine JO.nil ?_
          repeat (first | refine JX.next ?_ | refine JX.normal_block ?_)
          refine J.sel [0, 1, 2, 12, 14, 15, 16] (.cons rfl (.cons rfl (.cons rfl (.cons rfl (.cons rfl (.cons rfl (.cons rfl .nil))))))) ?_
          have hkS : S2.getD n [] = key := by rw [← hsm, rowD hns, hkey]
          refine J.coer (s := 16) (T' := .is (sliceO st1 (key ++ ([] : List V3)).length cp1)) rfl (Sub.isEq (by rw [List.append_nil])) ?_
          have hnew : restK S2 n = key :: restK S2 (n + 1) := by
            rw [← hkS]
            refine restK_new (by omega) ?_
            rcases Nat.eq_zero_or_pos n with h | h
            · exact .inl h
            · right
              intro e
              rw [← hsm, rowD (by omega), rowD hns] at e
              have h2 : decide ((0 : Int) < (n : Nat)) = true := decide_eq_true (by omega)
              rw [h2, (sameV_iff _ _).2 e] at ht66
              cases ht66
          repeat refine J.seq ?_
          refine J.plain ?_
          refine JO.t (ob_assign rfl) rfl ?_
          refine JO.nil ?_
          repeat (first | refine JX.next ?_ | refine JX.normal_block ?_)
          refine J.sel [0, 1, 2, 12, 14, 15, 16, 17] (.cons rfl (.cons rfl (.cons rfl (.cons rfl (.cons rfl (.cons rfl (.cons rfl (.cons rfl .nil)))))))) ?_
          repeat refine J.seq ?_
          refine J.block ?_
          repeat refine J.seq ?_
          refine J.loopG (α := List V3 × Option (Nat × List Value) × Nat × Nat) (fun y => [(0, .is (.slice ka kps.length kc)), (1, .is (.slice aa aps.length ac)), (2, .is (.slice da ks.length dcap)), (12, .is (.slice sa sps.length sc)), (14, .is (sliceO sto ops.length cpo)), (15, .is (.int .i64 (n : Nat))), (16, .is (sliceO y.2.1 (key ++ y.1).length y.2.2.1)), (17, .is (.int .i64 (y.2.2.2 : Nat)))]) (fun y => ownO y.2.1 ty_api_Value (ownO sto ty_sl_api_Value [])) (fun y => fun _ => True) (fun y => Grows V3.cells 3 (key ++ y.1) y.2.1 y.2.2.1 ∧ y.1 = ((tellsG ks (key, cols ks.length pz key)).take y.2.2.2).map Prod.fst ∧ (∀ p ∈ (tellsG ks (key, cols ks.length pz key)).take y.2.2.2, p.2 = 0) ∧ y.2.2.2 ≤ ks.length) (fun y => ks.length - y.2.2.2) ([], st1, cp1, 0) [0, 1, 2, 12, 14, 15, 16, 17] (.cons rfl (.cons rfl (.cons rfl (.cons rfl (.cons rfl (.cons rfl (.cons rfl (.cons rfl .nil)))))))) rfl (fun _ => trivial) ⟨by rw [List.append_nil]; exact hG1, rfl, fun p hp => by simp at hp, Nat.zero_le _⟩ fun ⟨acc, st5, cp5, k⟩ ⟨hG5, hac, hao, hk⟩ => ?_
          try dsimp only
          try dsimp only at st5
          try dsimp only at cp5
          try dsimp only at k
          try dsimp only at hG5
          try dsimp only at hac
          try dsimp only at hao
          try dsimp only at hk
          repeat refine J.seq ?_
          refine J.plain ?_
          refine JO.t (ob_move rfl) rfl ?_
          refine JO.t (ob_move rfl) rfl ?_
          refine JO.t (ob_len un_sl_int rfl) rfl ?_
          refine JO.t (ob_lss rfl rfl) rfl ?_
          refine JO.nil ?_
          repeat (first | refine JX.next ?_ | refine JX.normal_block ?_)
          refine J.sel [0, 1, 2, 12, 14, 15, 16, 17, 76] (.cons rfl (.cons rfl (.cons rfl (.cons rfl (.cons rfl (.cons rfl (.cons rfl (.cons rfl (.cons rfl .nil))))))))) ?_
          repeat refine J.seq ?_
          refine J.cond rfl (fun ht76 => ?_) (fun ht76 => ?_)
          ·
            try simp only [decide_eq_true_eq, decide_eq_false_iff_not] at ht76
            refine J.skip ?_
            repeat (first | refine JX.next ?_ | refine JX.normal_block ?_)
            repeat refine J.seq ?_
            refine J.block ?_
            repeat refine J.seq ?_
            refine J.plain ?_
            refine JO.t (ob_assign rfl) rfl ?_
            refine JO.nil ?_
            repeat (first | refine JX.next ?_ | refine JX.normal_block ?_)
            refine J.sel [0, 1, 2, 12, 14, 15, 16, 17, 18] (.cons rfl (.cons rfl (.cons rfl (.cons rfl (.cons rfl (.cons rfl (.cons rfl (.cons rfl (.cons rfl .nil))))))))) ?_
            repeat refine J.seq ?_
            refine J.plain ?_
            refine JO.t (ob_assign rfl) rfl ?_
            refine JO.nil ?_
            repeat (first | refine JX.next ?_ | refine JX.normal_block ?_)
            refine J.sel [0, 1, 2, 12, 14, 15, 16, 17, 18, 19] (.cons rfl (.cons rfl (.cons rfl (.cons rfl (.cons rfl (.cons rfl (.cons rfl (.cons rfl (.cons rfl (.cons rfl .nil)))))))))) ?_
            repeat refine J.seq ?_
            refine J.block ?_
            repeat refine J.seq ?_
            refine J.loopG (α := List V3 × Option (Nat × List Value) × Nat × Nat) (fun y => [(0, .is (.slice ka kps.length kc)), (1, .is (.slice aa aps.length ac)), (2, .is (.slice da ks.length dcap)), (12, .is (.slice sa sps.length sc)), (14, .is (sliceO sto ops.length cpo)), (15, .is (.int .i64 (n : Nat))), (16, .is (sliceO st5 (key ++ acc).length cp5)), (17, .is (.int .i64 (k : Nat))), (18, .is (sliceO y.2.1 y.1.length y.2.2.1)), (19, .is (.int .i64 (y.2.2.2 : Nat)))]) (fun y => ownO y.2.1 ty_api_Value (ownO st5 ty_api_Value (ownO sto ty_sl_api_Value []))) (fun y => fun _ => True) (fun y => Grows V3.cells 3 y.1 y.2.1 y.2.2.1 ∧ y.1 = col (pz.take y.2.2.2) key k ∧ y.2.2.2 ≤ kps.length) (fun y => kps.length - y.2.2.2) ([], none, 0, 0) [0, 1, 2, 12, 14, 15, 16, 17, 18, 19] (.cons rfl (.cons rfl (.cons rfl (.cons rfl (.cons rfl (.cons rfl (.cons rfl (.cons rfl (.cons rfl (.cons rfl .nil)))))))))) rfl (fun _ => trivial) ⟨rfl, rfl, Nat.zero_le _⟩ fun ⟨l, st9, cp9, i⟩ ⟨hG9, hlc, hi⟩ => ?_
            try dsimp only
            try dsimp only at st9
            try dsimp only at cp9
            try dsimp only at i
            try dsimp only at hG9
            try dsimp only at hlc
            try dsimp only at hi
            repeat refine J.seq ?_
            refine J.plain ?_
            refine JO.t (ob_move rfl) rfl ?_
            refine JO.t (ob_move rfl) rfl ?_
            refine JO.t (ob_len un_sl_sl_api_Value rfl) rfl ?_
            refine JO.t (ob_lss rfl rfl) rfl ?_
            refine JO.nil ?_
            repeat (first | refine JX.next ?_ | refine JX.normal_block ?_)
            refine J.sel [0, 1, 2, 12, 14, 15, 16, 17, 18, 19, 82] (.cons rfl (.cons rfl (.cons rfl (.cons rfl (.cons rfl (.cons rfl (.cons rfl (.cons rfl (.cons rfl (.cons rfl (.cons rfl .nil))))))))))) ?_
            repeat refine J.seq ?_
            refine J.cond rfl (fun ht82 => ?_) (fun ht82 => ?_)
            ·
              try simp only [decide_eq_true_eq, decide_eq_false_iff_not] at ht82
              refine J.skip ?_
              repeat (first | refine JX.next ?_ | refine JX.normal_block ?_)
              repeat refine J.seq ?_
              refine J.block ?_
              have hik : i < kps.length := by omega
              repeat refine J.seq ?_
              refine J.reg0 hmx (by kernel_rfl) (by kernel_rfl) ?_
              refine RT.t (ob_move rfl) ?_
              refine RT.t (ob_move rfl) ?_
              refine RT.t (ob_indexAddr el_sl_sl_api_Value rfl (hka (by omega)) rfl (by omega) (by omega)) ?_
              refine RT.t (ob_loadG1 (enc := RV.c) (sz := 1) (i := i) (j := 0) (y := kps.getD (i) rv0) (u := (kps.getD (i) rv0).v) sz_sl_api_Value rfl (by repeat (first | exact List.mem_cons_self | apply List.mem_cons_of_mem)) (hka (by omega)) (getD_some (by omega)) (by omega) rfl) ?_
              refine RT.t (ob_move rfl) ?_
              refine RT.t (ob_move rfl) ?_
              refine RT.t (ob_indexAddr el_sl_sl_api_Value rfl (hsa (by omega)) rfl (by omega) (by omega)) ?_
              refine RT.t (ob_loadG1 (enc := RV.c) (sz := 1) (i := n) (j := 0) (y := sps.getD (n) rv0) (u := (sps.getD (n) rv0).v) sz_sl_api_Value rfl (by repeat (first | exact List.mem_cons_self | apply List.mem_cons_of_mem)) (hsa (by omega)) (getD_some (by omega)) (by omega) rfl) ?_
              refine RT.t (ob_call rfl (c_ref01_Same (kps.getD i rv0).row (sps.getD n rv0).row (by have := hK _ (List.mem_map_of_mem (getD_mem (d := rv0) hik)); omega)) (.sub rfl (Sub.rvS (p := kps.getD (i) rv0) (getD_mem hik) (by repeat (first | exact List.mem_cons_self | apply List.mem_cons_of_mem))) (.sub rfl (Sub.rvS (p := sps.getD (n) rv0) (getD_mem hns) (by repeat (first | exact List.mem_cons_self | apply List.mem_cons_of_mem))) .nil))) ?_
              refine RT.nil ?_
              refine FinS.nil0 ?_
              repeat (first | refine JX.next ?_ | refine JX.normal_block ?_)
              refine J.sel [0, 1, 2, 12, 14, 15, 16, 17, 18, 19, 93] (.cons rfl (.cons rfl (.cons rfl (.cons rfl (.cons rfl (.cons rfl (.cons rfl (.cons rfl (.cons rfl (.cons rfl (.cons rfl .nil))))))))))) ?_
              repeat refine J.seq ?_
              refine J.cond rfl (fun ht93 => ?_) (fun ht93 => ?_)
              ·
                try simp only [decide_eq_true_eq, decide_eq_false_iff_not] at ht93
                have hia : i < aps.length := by omega
                have hsk : (kps.getD i rv0).row = key := by rw [hkey]; exact (sameV_iff _ _).1 ht93
                have hrl : (aps.getD i rv0).row.length = (aps.getD i rv0).len := hkn _ (getD_mem hia)
                have hvl0 : (aps.getD i rv0).row.length = ks.length := hal0 _ (List.mem_map_of_mem (getD_mem (d := rv0) hia))
                have hll : l.length ≤ 1048576 := Nat.le_trans (by rw [hlc]; exact col_le _ _ _) (by rw [List.length_take]; omega)
                refine J.fact (RowG V3.cells 3 (aps.getD i rv0).row (aps.getD i rv0).a (aps.getD i rv0).len) (fun E w hG _ => fun w2 hk => (hG (RVF aps) (by repeat (first | exact List.mem_cons_self | apply List.mem_cons_of_mem)) w2 hk _ (getD_mem hia)).2) ?_
                refine J.knG List.mem_cons_self (fun rb ro _ hra => ?_)
                repeat refine J.seq ?_
                refine J.plain ?_
                refine JO.t (ob_move rfl) rfl ?_
                refine JO.t (ob_move rfl) rfl ?_
                refine JO.t (ob_move rfl) rfl ?_
                refine JO.t (ob_indexAddr el_sl_sl_api_Value rfl (haa (by omega)) rfl (by omega) (by omega)) rfl ?_
                refine JO.t (ob_loadG1 (enc := RV.c) (sz := 1) (i := i) (j := 0) (y := aps.getD (i) rv0) (u := (aps.getD (i) rv0).v) sz_sl_api_Value rfl (by repeat (first | exact List.mem_cons_self | apply List.mem_cons_of_mem)) (haa (by omega)) (getD_some (by omega)) (by omega) rfl) rfl ?_
                refine JO.t (ob_move rfl) rfl ?_
                refine JO.t (ob_indexAddr el_sl_api_Value rfl (hra (by omega)) rfl (by omega) (by omega)) rfl ?_
                refine JO.t (ob_loadG (enc := V3.cells) (sz := 3) (i := k) (y := (aps.getD i rv0).row.getD k v3E) (cs := V3.cells ((aps.getD i rv0).row.getD k v3E)) sz_api_Value rfl (by repeat (first | exact List.mem_cons_self | apply List.mem_cons_of_mem)) (hra (by omega)) (v3_get (by omega)) (by omega) rfl) rfl ?_
                refine JO.t (ob_buildSlice (cs := [_, _, _]) sl_sl_api_Value (by omega) (by omega) (.cons rfl .nil) rfl rfl rfl) rfl ?_
                refine JO.apX ([(aps.getD i rv0).row.getD k v3E]) ap_sl_api_Value v3_len (by repeat (first | exact .here | apply Cx.past | apply Cx.there)) hG9 rfl rfl (fun L => src_new un_sl_api_Value rfl rfl) (by simp) (by simp; omega) (by simp; omega) rfl (fun st8 cp8 hG8 => ?_)
                try dsimp only
                refine JO.t (ob_assign rfl) rfl ?_
                refine JO.nil ?_
                repeat (first | refine JX.next ?_ | refine JX.normal_block ?_)
                refine J.sel [0, 1, 2, 12, 14, 15, 16, 17, 18, 19] (.cons rfl (.cons rfl (.cons rfl (.cons rfl (.cons rfl (.cons rfl (.cons rfl (.cons rfl (.cons rfl (.cons rfl .nil)))))))))) ?_
                repeat refine J.seq ?_
                refine J.plain ?_
                refine JO.t (ob_move rfl) rfl ?_
                refine JO.t (ob_addc (cc := ((i + 1 : Nat) : Int)) rfl rfl (by omega) (by omega) (by omega)) rfl ?_
                refine JO.t (ob_assign rfl) rfl ?_
                refine JO.nil ?_
                repeat refine JX.normal_block ?_
                refine JX.roundG (x := (l, st9, cp9, i)) (l ++ [(aps.getD i rv0).row.getD k v3E], st8, cp8, i + 1) ?_ ?_ [0, 1, 2, 12, 14, 15, 16, 17, 18, 19] ?_ ?_ ?_ ?_
                · exact ⟨hG8, by show l ++ [_] = col (pz.take (i + 1)) key k; rw [col_step (hpi i hik) hsk, hlc], by show i + 1 ≤ kps.length; omega⟩
                · exact (by show kps.length - (i + 1) < kps.length - i; omega)
                · exact (.cons rfl (.cons rfl (.cons rfl (.cons rfl (.cons rfl (.cons rfl (.cons rfl (.cons rfl (.cons rfl (.cons rfl .nil))))))))))
                · repeat (first | exact .all | exact .nil | refine Has.own (by repeat (first | exact .here | apply Tl.past | apply Tl.there)) ?_ | refine Has.cons (by repeat (first | exact .here | apply Pk.past | apply Pk.there)) ?_)
                · exact fun G hG => by repeat (first | exact hG | refine List.mem_cons_of_mem _ ?_)
                · exact fun _ _ _ => fun _ _ => trivial
              ·
                try simp only [decide_eq_true_eq, decide_eq_false_iff_not] at ht93
                refine J.skip ?_
                repeat (first | refine JX.next ?_ | refine JX.normal_block ?_)
                repeat refine J.seq ?_
                refine J.plain ?_
                refine JO.t (ob_move rfl) rfl ?_
                refine JO.t (ob_addc (cc := ((i + 1 : Nat) : Int)) rfl rfl (by omega) (by omega) (by omega)) rfl ?_
                refine JO.t (ob_assign rfl) rfl ?_
                refine JO.nil ?_
                repeat refine JX.normal_block ?_
                refine JX.roundG (x := (l, st9, cp9, i)) (l, st9, cp9, i + 1) ?_ ?_ [0, 1, 2, 12, 14, 15, 16, 17, 18, 19] ?_ ?_ ?_ ?_
                · exact ⟨hG9, by show l = col (pz.take (i + 1)) key k; rw [col_skip (hpi i hik) (fun e => by rw [← hkey, (sameV_iff _ _).2 e] at ht93; cases ht93), hlc], by show i + 1 ≤ kps.length; omega⟩
                · exact (by show kps.length - (i + 1) < kps.length - i; omega)
                · exact (.cons rfl (.cons rfl (.cons rfl (.cons rfl (.cons rfl (.cons rfl (.cons rfl (.cons rfl (.cons rfl (.cons rfl .nil))))))))))
                · repeat (first | exact .all | exact .nil | refine Has.own (by repeat (first | exact .here | apply Tl.past | apply Tl.there)) ?_ | refine Has.cons (by repeat (first | exact .here | apply Pk.past | apply Pk.there)) ?_)
                · exact fun G hG => by repeat (first | exact hG | refine List.mem_cons_of_mem _ ?_)
                · exact fun _ _ _ => fun _ _ => trivial
            ·
              try simp only [decide_eq_true_eq, decide_eq_false_iff_not] at ht82
              repeat refine J.seq ?_
              refine J.exit ?_
              repeat (first | refine JX.hit ?_ | refine JX.miss rfl ?_ | refine JX.exit_pass ?_)
              repeat (first | refine JX.next ?_ | refine JX.normal_block ?_)
              have hi2 : i = kps.length := by omega
              subst hi2
              rw [List.take_of_length_le (by rw [hpz, List.length_zip, List.length_map]; omega)] at hlc
              have hkt : 20 ≤ ks.getD k 0 ∧ ks.getD k 0 ≤ 23 := hkk _ (getD_mem (by omega))
              have hll : l.length ≤ 1048576 := Nat.le_trans (by rw [hlc]; exact col_le _ _ _) (by rw [hpz, List.length_zip, List.length_map]; omega)
              have hlv : ∀ v ∈ l, I64 v.n := fun v hv2 => by
                rw [hlc] at hv2
                obtain ⟨p, hp, rfl⟩ := col_mem hv2
                obtain ⟨i, hi⟩ := List.getElem?_of_mem hp
                have hil : i < kps.length := by
                  have := (List.getElem?_eq_some_iff.1 hi).1
                  rw [hpz, List.length_zip, List.length_map] at this
                  omega
                rw [hpi i hil] at hi
                injection hi with hi
                rw [← hi]
                have hia : i < aps.length := by omega
                have hm2 := List.mem_map_of_mem (f := RV.row) (getD_mem (d := rv0) hia)
                exact hv _ hm2 _ (getD_mem (by have := hal0 _ hm2; omega))
              have htt : (tellsG ks (key, cols ks.length pz key))[k]? = some (tellV (ks.getD k 0) (nn l)) := by rw [hlc]; exact tellsG_get (by omega)
              refine J.freezeO v3_len hG9 (e := ty_api_Value) (by repeat (first | exact .here | apply Tl.past | apply Tl.there)) (fun _ h => h) rfl (is_out (ownO_is _ _ (ownO_is _ _ rfl))) ?_
              repeat refine J.seq ?_
              refine J.plain ?_
              refine JO.t (ob_move rfl) rfl ?_
              refine JO.t (ob_move rfl) rfl ?_
              refine JO.t (ob_indexAddr el_sl_int rfl (hda (by omega)) rfl (by omega) (by omega)) rfl ?_
              refine JO.t (ob_loadG1 (enc := kC) (sz := 1) (i := k) (j := 0) (y := ks.getD k 0) (u := .int .i64 (ks.getD k 0)) sz_int rfl (by repeat (first | exact List.mem_cons_self | apply List.mem_cons_of_mem)) (hda (by omega)) (getD_some (by omega)) (by omega) rfl) rfl ?_
              refine JO.t (ob_move rfl) rfl ?_
              refine JO.t (ob_call rfl (c_ref16_tell (ks.getD k 0) hkt l hll hlv) (.one rfl (.sub rfl (Sub.slO hG9 (by repeat (first | exact List.mem_cons_self | apply List.mem_cons_of_mem))) .nil))) rfl ?_
              refine JO.t (ob_move rfl) rfl ?_
              refine JO.t (ob_extract0 rfl) rfl ?_
              refine JO.t (ob_extract1 rfl) rfl ?_
              refine JO.alloc zo_api_Value rfl fun b20 => ?_
              refine JO.m (obm_store rfl rfl (by repeat (first | exact .here | apply Upd.there)) (by first | exact cnt_is rfl rfl | exact cnt_ex) (by first | exact cnt_is rfl rfl | exact cnt_ex | exact cnt_aggO) ss_api_Value) (by rfl) ?_
              refine JO.t (ob_assign rfl) rfl ?_
              refine JO.nil ?_
              repeat (first | refine JX.next ?_ | refine JX.normal_block ?_)
              refine J.sel [0, 1, 2, 12, 14, 15, 16, 17, 20, 21] (.cons rfl (.cons rfl (.cons rfl (.cons rfl (.cons rfl (.cons rfl (.cons rfl (.cons rfl (.cons rfl (.cons rfl .nil)))))))))) ?_
              repeat refine J.seq ?_
              refine J.plain ?_
              refine JO.t (ob_move rfl) rfl ?_
              refine JO.t (ob_neq rfl rfl) rfl ?_
              refine JO.nil ?_
              repeat (first | refine JX.next ?_ | refine JX.normal_block ?_)
              refine J.sel [0, 1, 2, 12, 14, 15, 16, 17, 20, 21, 114] (.cons rfl (.cons rfl (.cons rfl (.cons rfl (.cons rfl (.cons rfl (.cons rfl (.cons rfl (.cons rfl (.cons rfl (.cons rfl .nil))))))))))) ?_
              repeat refine J.seq ?_
              refine J.cond rfl (fun ht114 => ?_) (fun ht114 => ?_)
              ·
                try simp only [decide_eq_true_eq, decide_eq_false_iff_not] at ht114
                repeat refine J.seq ?_
                refine J.plain ?_
                refine JO.t (ob_move rfl) rfl ?_
                refine JO.t (ob_assign rfl) rfl ?_
                refine JO.t (ob_assign rfl) rfl ?_
                refine JO.nil ?_
                repeat (first | refine JX.next ?_ | refine JX.normal_block ?_)
                refine J.sel [8, 9] (.cons rfl (.cons rfl .nil)) ?_
                repeat refine J.seq ?_
                refine J.ret ?_
                repeat (first | refine JX.ret_pass ?_ | refine JX.ret_block ?_)
                have h0 : (tellV (ks.getD k 0) (nn l)).2 ≠ 0 := by simpa [-List.getD_eq_getElem?_getD] using ht114
                have hg0 : grpO (kps.map RV.row) (aps.map RV.row) ks whole = ([], 35) := by
                  rw [hgr]
                  exact outR_bad (List.mem_map_of_mem (f := fun key => ((key, cols ks.length pz key) : GPr)) (a := key) (by rw [← hdn, hnew]; simp)) (okT_bad htt h0)
                exact JX.ret2sub rfl rfl rfl (by rw [hg0]; exact Sub.rowsNil) rfl (Sub.isEq (by rw [hg0, (tellV_err _ _).resolve_left h0]))
              ·
                try simp only [decide_eq_true_eq, decide_eq_false_iff_not] at ht114
                refine J.skip ?_
                repeat (first | refine JX.next ?_ | refine JX.normal_block ?_)
                have hacl : acc.length ≤ 1048576 := by rw [hac, List.length_map, List.length_take]; omega
                repeat refine J.seq ?_
                refine J.plain ?_
                refine JO.t (ob_move rfl) rfl ?_
                refine JO.t (ob_ldN (cs := [_, _, _]) sz_api_Value rfl rfl rfl) rfl ?_
                refine JO.t (ob_buildSlice (cs := [_, _, _]) sl_sl_api_Value (by omega) (by omega) (.cons rfl .nil) rfl rfl rfl) rfl ?_
                refine JO.apX ([(tellV (ks.getD k 0) (nn l)).1]) ap_sl_api_Value v3_len (by repeat (first | exact .here | apply Cx.past | apply Cx.there)) hG5 rfl rfl (fun L => src_new un_sl_api_Value rfl rfl) (by simp) (by simp; omega) (by simp; omega) rfl (fun st6 cp6 hG6 => ?_)
                try dsimp only
                rw [List.append_assoc] at hG6 ⊢
                refine JO.t (ob_assign rfl) rfl ?_
                refine JO.nil ?_
                repeat (first | refine JX.next ?_ | refine JX.normal_block ?_)
                refine J.sel [0, 1, 2, 12, 14, 15, 16, 17] (.cons rfl (.cons rfl (.cons rfl (.cons rfl (.cons rfl (.cons rfl (.cons rfl (.cons rfl .nil)))))))) ?_
                repeat refine J.seq ?_
                refine J.plain ?_
                refine JO.t (ob_move rfl) rfl ?_
                refine JO.t (ob_addc (cc := ((k + 1 : Nat) : Int)) rfl rfl (by omega) (by omega) (by omega)) rfl ?_
                refine JO.t (ob_assign rfl) rfl ?_
                refine JO.nil ?_
                repeat refine JX.normal_block ?_
                refine JX.roundG (x := (acc, st5, cp5, k)) (acc ++ [(tellV (ks.getD k 0) (nn l)).1], st6, cp6, k + 1) ?_ ?_ [0, 1, 2, 12, 14, 15, 16, 17] ?_ ?_ ?_ ?_
                · exact ⟨hG6, by
        show acc ++ [(tellV (ks.getD k 0) (nn l)).1] = ((tellsG ks (key, cols ks.length pz key)).take (k + 1)).map Prod.fst
        rw [List.take_add_one, htt, List.map_append, ← hac]
        rfl, fun q hq => by
        have hq : q ∈ (tellsG ks (key, cols ks.length pz key)).take (k + 1) := hq
        rw [List.take_add_one, htt] at hq
        rcases List.mem_append.1 hq with hq | hq
        · exact hao q hq
        · rw [Option.toList_some, List.mem_singleton] at hq
          rw [hq]
          simpa [-List.getD_eq_getElem?_getD] using ht114, by show k + 1 ≤ ks.length; omega⟩
                · exact (by show ks.length - (k + 1) < ks.length - k; omega)
                · exact (.cons rfl (.cons rfl (.cons rfl (.cons rfl (.cons rfl (.cons rfl (.cons rfl (.cons rfl .nil))))))))
                · exact has_drop
                · exact fun G hG => by repeat (first | exact hG | refine List.mem_cons_of_mem _ ?_)
                · exact fun _ _ _ => fun _ _ => trivial
          ·
            try simp only [decide_eq_true_eq, decide_eq_false_iff_not] at ht76
            repeat refine J.seq ?_
            refine J.exit ?_
            repeat (first | refine JX.hit ?_ | refine JX.miss rfl ?_ | refine JX.exit_pass ?_)
            repeat (first | refine JX.next ?_ | refine JX.normal_block ?_)
            have hk2 : k = ks.length := by omega
            subst hk2
            have htl3 : (tellsG ks (key, cols ks.length pz key)).length ≤ ks.length := by unfold tellsG; rw [List.length_zipWith]; omega
            refine J.freezeO v3_len hG5 (e := ty_api_Value) (by repeat (first | exact .here | apply Tl.past | apply Tl.there)) (fun _ h => h) rfl (is_out (ownO_is _ _ rfl)) ?_
            obtain ⟨p, hp⟩ : ∃ p, p = RV.mk (key ++ acc) (adO st5) (key ++ acc).length (capO st5 cp5) := ⟨_, rfl⟩
            refine J.coer (s := 16) (T' := .is p.v) rfl (Sub.isEq (by rw [hG5.sl.1, hp])) ?_
            repeat refine J.seq ?_
            refine J.plain ?_
            refine JO.t (ob_move rfl) rfl ?_
            refine JO.t (ob_move rfl) rfl ?_
            refine JO.t (ob_buildSlice (cs := [_]) sl_sl_sl_api_Value (by omega) (by omega) (.cons rfl .nil) rfl rfl rfl) rfl ?_
            refine JO.apX ([p]) ap_sl_sl_api_Value RV.c_len (by repeat (first | exact .here | apply Cx.past | apply Cx.there)) hGo rfl rfl (fun L => src_new un_sl_sl_api_Value rfl rfl) (by simp) (by simp; omega) (by simp; omega) rfl (fun st7 cp7 hG7 => ?_)
            try dsimp only
            refine JO.t (ob_assign rfl) rfl ?_
            refine JO.nil ?_
            repeat (first | refine JX.next ?_ | refine JX.normal_block ?_)
            refine J.sel [0, 1, 2, 12, 14, 15] (.cons rfl (.cons rfl (.cons rfl (.cons rfl (.cons rfl (.cons rfl .nil)))))) ?_
            repeat refine J.seq ?_
            refine J.plain ?_
            refine JO.t (ob_move rfl) rfl ?_
            refine JO.t (ob_addc (cc := ((n + 1 : Nat) : Int)) rfl rfl (by omega) (by omega) (by omega)) rfl ?_
            refine JO.t (ob_assign rfl) rfl ?_
            refine JO.nil ?_
            repeat refine JX.normal_block ?_
            refine JX.roundG (x := (ops, sto, cpo, n, dn)) (ops ++ [p], st7, cp7, n + 1, dn ++ [key]) ?_ ?_ [0, 1, 2, 12, 14, 15] ?_ ?_ ?_ ?_
            · exact ⟨hG7, by show n + 1 ≤ sps.length; omega, by
        show (ops ++ [p]).map RV.row = (dn ++ [key]).map _
        rw [List.map_append, List.map_append, hor]
        congr 1
        rw [hp]
        show [key ++ acc] = [rowT ks (key, cols ks.length pz key)]
        unfold rowT
        rw [hac, List.take_of_length_le htl3], fun x hx => by
        rcases List.mem_append.1 hx with hx | hx
        · exact hook x hx
        · rw [List.mem_singleton.1 hx]
          unfold okT
          rw [List.all_eq_true]
          intro q hq
          rw [List.take_of_length_le htl3] at hao
          rw [hao q hq]
          rfl, by
        show (dn ++ [key]) ++ restK S2 (n + 1) = D
        rw [List.append_assoc, ← hdn, hnew]
        rfl, by show (ops ++ [p]).length ≤ n + 1; rw [List.length_append, List.length_singleton]; omega⟩
            · exact (by show sps.length - (n + 1) < sps.length - n; omega)
            · exact (.cons rfl (.cons rfl (.cons rfl (.cons rfl (.cons rfl (.cons rfl .nil))))))
            · repeat (first | exact .all | exact .nil | refine Has.own (by repeat (first | exact .here | apply Tl.past | apply Tl.there)) ?_ | refine Has.cons (by repeat (first | exact .here | apply Pk.past | apply Pk.there)) ?_)
            · exact fun G hG => by repeat (first | exact hG | refine List.mem_cons_of_mem _ ?_)
            · exact fun E w hF => fun w2 hk2 q hq => (List.mem_append.1 hq).elim (fun h => hF (RVF ops) (by repeat (first | exact List.mem_cons_self | apply List.mem_cons_of_mem)) w2 hk2 q h) (fun h => by rw [List.mem_singleton.1 h, hp]; exact ⟨hG5.sl.2, hF (RowG V3.cells 3 (key ++ acc) (adO st5) (key ++ acc).length) (by repeat (first | exact List.mem_cons_self | apply List.mem_cons_of_mem)) w2 hk2⟩)
      ·
        try simp only [decide_eq_true_eq, decide_eq_false_iff_not] at ht50
        repeat refine J.seq ?_
        refine J.exit ?_
        repeat (first | refine JX.hit ?_ | refine JX.miss rfl ?_ | refine JX.exit_pass ?_)
        repeat (first | refine JX.next ?_ | refine JX.normal_block ?_)
        rw [restK_end (by rw [← hsm, List.length_map]; omega), List.append_nil] at hdn
        refine J.freezeO RV.c_len hGo (e := ty_sl_api_Value) (by repeat (first | exact .here | apply Tl.past | apply Tl.there)) (fun _ h => h) rfl rfl ?_
        repeat refine J.seq ?_
        refine J.plain ?_
        refine JO.t (ob_move rfl) rfl ?_
        refine JO.t (ob_assign rfl) rfl ?_
        refine JO.t (ob_assign rfl) rfl ?_
        refine JO.nil ?_
        repeat (first | refine JX.next ?_ | refine JX.normal_block ?_)
        refine J.sel [8, 9] (.cons rfl (.cons rfl .nil)) ?_
        repeat refine J.seq ?_
        refine J.ret ?_
        repeat (first | refine JX.ret_pass ?_ | refine JX.ret_block ?_)
        have hg0 : grpO (kps.map RV.row) (aps.map RV.row) ks whole = ((D.map fun key => ((key, cols ks.length pz key) : GPr)).map (rowT ks), 0) := by
          rw [hgr]
          refine outR_ok fun g hg => ?_
          obtain ⟨key, h1, rfl⟩ := List.mem_map.1 hg
          exact hook key (by rw [hdn]; exact h1)
        rw [hdn] at hor
        exact JX.ret2sub rfl rfl rfl (by rw [hg0]; exact Sub.rowsO hGo (by repeat (first | exact List.mem_cons_self | apply List.mem_cons_of_mem)) (rps := ops) (by repeat (first | exact List.mem_cons_self | apply List.mem_cons_of_mem)) (fun _ h => h) (by rw [hor, List.map_map]; rfl)) rfl (Sub.isEq (by rw [hg0]))
end Go.Proofs.Ytgpikmonklainaa
