/- The document on order: Top, nothing told as nil. No condition. -/
import Derived.Test.YtgpikmonklainaaXGYa
import Derived.Test.YtgpikmonklainaaXR5
set_option maxRecDepth 20000
namespace Go.Proofs.Ytgpikmonklainaa
open Go Go.Vc
open Go.Vl Go.Od
theorem c_ref15_Top_n (rows keys : List (List V3)) (dn : List Bool) (limit : Int) (hn : rows.length ≤ 1048576) (hR : ∀ r ∈ rows, r.length ≤ 1048576) (hK : ∀ r ∈ keys, r.length ≤ 1048576) (hdn : dn.length ≤ 1048576) : CallTy Try.prog f_ref15_Top [.rep (RowsR noG rows), .rep (RowsR noG keys), .rep (SlG boC 1 dn), .is (.int .i64 limit)] (.tup2 (.rep (RowsR nG (topO rows keys dn limit))) (.is (.int .i64 (topE rows keys dn)))) :=
  CallTy.of (fn := Try.f12) Try.func12 (n := 115) rfl rfl rfl (fun _ _ => by kernel_rfl) fun E W => by
  refine J.openRows (s := 0) rfl (fun rps ra rl rc rb ro hrm hrl hrc hra => ?_)
  refine J.openRows (s := 1) rfl (fun kps ka kl kc kb ko hkm hkl hkc hka => ?_)
  refine J.openSl (enc := boC) (sz := 1) (s := 2) rfl (fun da dl dc db dof hdl hda => ?_)
  subst hdl hrl hkl hrm hkm
  refine J.know (∀ p ∈ kps, p.row.length = p.len) (fun E w hG _ => fun p hp => ((hG (RVF kps) (by repeat (first | exact List.mem_cons_self | apply List.mem_cons_of_mem))).now p hp).2.1) (fun hkn => ?_)
  rw [List.length_map] at hn
  repeat refine J.seq ?_
  refine J.plain ?_
  refine JO.t (ob_assign rfl) rfl ?_
  refine JO.t (ob_assign rfl) rfl ?_
  refine JO.nil ?_
  repeat (first | refine JX.next ?_ | refine JX.normal_block ?_)
  refine J.sel [0, 1, 2, 3] (.cons rfl (.cons rfl (.cons rfl (.cons rfl .nil)))) ?_
  repeat refine J.seq ?_
  refine J.plain ?_
  refine JO.t (ob_move rfl) rfl ?_
  refine JO.t (ob_len un_sl_sl_api_Value rfl) rfl ?_
  refine JO.t (ob_move rfl) rfl ?_
  refine JO.t (ob_len un_sl_sl_api_Value rfl) rfl ?_
  refine JO.t (ob_neq rfl rfl) rfl ?_
  refine JO.nil ?_
  repeat (first | refine JX.next ?_ | refine JX.normal_block ?_)
  refine J.sel [0, 1, 2, 3, 20] (.cons rfl (.cons rfl (.cons rfl (.cons rfl (.cons rfl .nil))))) ?_
  repeat refine J.seq ?_
  refine J.cond rfl (fun ht20 => ?_) (fun ht20 => ?_)
  ·
    try simp only [decide_eq_true_eq, decide_eq_false_iff_not] at ht20
    repeat refine J.seq ?_
    refine J.plain ?_
    refine JO.t (ob_assign rfl) rfl ?_
    refine JO.t (ob_assign rfl) rfl ?_
    refine JO.nil ?_
    repeat (first | refine JX.next ?_ | refine JX.normal_block ?_)
    refine J.sel [8, 9] (.cons rfl (.cons rfl .nil)) ?_
    repeat refine J.seq ?_
    refine J.ret ?_
    repeat (first | refine JX.ret_pass ?_ | refine JX.ret_block ?_)
    have hb : allOk (rps.map RV.row) (kps.map RV.row) dn = false := by
      unfold allOk
      simp at ht20 ⊢
      intro h
      omega
    exact JX.ret2sub rfl rfl rfl (by rw [topO_bad hb]; exact Sub.rowsNilN) rfl (Sub.isEq (by rw [topE_bad hb]))
  ·
    try simp only [decide_eq_true_eq, decide_eq_false_iff_not] at ht20
    refine J.skip ?_
    repeat (first | refine JX.next ?_ | refine JX.normal_block ?_)
    have hrk : rps.length = kps.length := by simp at ht20; omega
    repeat refine J.seq ?_
    refine J.plain ?_
    refine JO.t (ob_assign rfl) rfl ?_
    refine JO.nil ?_
    repeat (first | refine JX.next ?_ | refine JX.normal_block ?_)
    refine J.sel [0, 1, 2, 3, 10] (.cons rfl (.cons rfl (.cons rfl (.cons rfl (.cons rfl .nil))))) ?_
    repeat refine J.seq ?_
    refine J.block ?_
    repeat refine J.seq ?_
    refine J.loopF (α := Nat) (fun i => [(0, .is (.slice ra rps.length rc)), (1, .is (.slice ka kps.length kc)), (2, .is (.slice da dn.length dc)), (3, .is (.int .i64 limit)), (10, .is (.int .i64 (i : Nat)))]) (fun i => i ≤ rps.length ∧ ∀ p ∈ (lvs rps kps).take i, okL dn p.ln = true) (fun i => rps.length - i) 0 [0, 1, 2, 3, 10] (.cons rfl (.cons rfl (.cons rfl (.cons rfl (.cons rfl .nil))))) ⟨Nat.zero_le _, fun p hp => by simp at hp⟩ fun i ⟨hi, hok⟩ => ?_
    repeat refine J.seq ?_
    refine J.plain ?_
    refine JO.t (ob_move rfl) rfl ?_
    refine JO.t (ob_move rfl) rfl ?_
    refine JO.t (ob_len un_sl_sl_api_Value rfl) rfl ?_
    refine JO.t (ob_lss rfl rfl) rfl ?_
    refine JO.nil ?_
    repeat (first | refine JX.next ?_ | refine JX.normal_block ?_)
    refine J.sel [0, 1, 2, 3, 10, 24] (.cons rfl (.cons rfl (.cons rfl (.cons rfl (.cons rfl (.cons rfl .nil)))))) ?_
    repeat refine J.seq ?_
    refine J.cond rfl (fun ht24 => ?_) (fun ht24 => ?_)
    ·
      try simp only [decide_eq_true_eq, decide_eq_false_iff_not] at ht24
      refine J.skip ?_
      repeat (first | refine JX.next ?_ | refine JX.normal_block ?_)
      repeat refine J.seq ?_
      refine J.block ?_
      have hr1 : (rps.getD i rv0).row.length ≤ 1048576 := hR _ (List.mem_map_of_mem (getD_mem (by omega)))
      have hk1 : (kps.getD i rv0).row.length ≤ 1048576 := hK _ (List.mem_map_of_mem (getD_mem (by omega)))
      have hkl : (kps.getD i rv0).row.length = (kps.getD i rv0).len := hkn _ (getD_mem (by omega))
      repeat refine J.seq ?_
      refine J.reg0 hmx (by kernel_rfl) (by kernel_rfl) ?_
      refine RT.t (ob_move rfl) ?_
      refine RT.t (ob_move rfl) ?_
      refine RT.t (ob_indexAddr el_sl_sl_api_Value rfl (hka (by omega)) rfl (by omega) (by omega)) ?_
      refine RT.t (ob_loadG1 (enc := RV.c) (sz := 1) (i := i) (j := 0) (y := kps.getD i rv0) (u := (kps.getD i rv0).v) sz_sl_api_Value rfl (by repeat (first | exact List.mem_cons_self | apply List.mem_cons_of_mem)) (hka (by omega)) (getD_some (by omega)) (by omega) rfl) ?_
      refine RT.t (ob_len un_sl_api_Value rfl) ?_
      refine RT.t (ob_move rfl) ?_
      refine RT.t (ob_len un_sl_bool rfl) ?_
      refine RT.t (ob_neq rfl rfl) ?_
      refine RT.t (ob_move rfl) ?_
      refine RT.g rfl rfl rfl (fun hg => ob_move (.inl rfl)) ?_
      refine RT.g rfl rfl rfl (fun hg => ob_move (.inl rfl)) ?_
      refine RT.g rfl rfl rfl (fun hg => ob_indexAddr el_sl_sl_api_Value (.inr ⟨_, rfl, fun h => h⟩) (hra (by omega)) (.inr ⟨_, rfl, fun h => h⟩) (by omega) (by omega)) ?_
      refine RT.g rfl rfl rfl (fun hg => ob_loadG1 (enc := RV.c) (sz := 1) (i := i) (j := 0) (y := rps.getD i rv0) (u := (rps.getD i rv0).v) sz_sl_api_Value (.inr ⟨_, rfl, fun h => h⟩) (by repeat (first | exact List.mem_cons_self | apply List.mem_cons_of_mem)) (hra (by omega)) (getD_some (by omega)) (by omega) rfl) ?_
      refine RT.g rfl rfl rfl (fun hg => ob_call (.inl rfl) (c_ref15_may (rps.getD i rv0).row (by omega)) (.sub (.inr ⟨_, rfl, fun h => h⟩) (Sub.rvS (p := rps.getD i rv0) (getD_mem (by omega)) (by repeat (first | exact List.mem_cons_self | apply List.mem_cons_of_mem))) .nil)) ?_
      refine RT.g rfl rfl rfl (fun hg => ob_not (.inr ⟨_, rfl, fun h => h⟩)) ?_
      refine RT.t (ob_pickOr rfl rfl rfl id) ?_
      refine RT.t (ob_move rfl) ?_
      refine RT.g rfl rfl rfl (fun hg => ob_move (.inl rfl)) ?_
      refine RT.g rfl rfl rfl (fun hg => ob_move (.inl rfl)) ?_
      refine RT.g rfl rfl rfl (fun hg => ob_indexAddr el_sl_sl_api_Value (.inr ⟨_, rfl, fun h => h⟩) (hka (by omega)) (.inr ⟨_, rfl, fun h => h⟩) (by omega) (by omega)) ?_
      refine RT.g rfl rfl rfl (fun hg => ob_loadG1 (enc := RV.c) (sz := 1) (i := i) (j := 0) (y := kps.getD i rv0) (u := (kps.getD i rv0).v) sz_sl_api_Value (.inr ⟨_, rfl, fun h => h⟩) (by repeat (first | exact List.mem_cons_self | apply List.mem_cons_of_mem)) (hka (by omega)) (getD_some (by omega)) (by omega) rfl) ?_
      refine RT.g rfl rfl rfl (fun hg => ob_call (.inl rfl) (c_ref15_may (kps.getD i rv0).row (by omega)) (.sub (.inr ⟨_, rfl, fun h => h⟩) (Sub.rvS (p := kps.getD i rv0) (getD_mem (by omega)) (by repeat (first | exact List.mem_cons_self | apply List.mem_cons_of_mem))) .nil)) ?_
      refine RT.g rfl rfl rfl (fun hg => ob_not (.inr ⟨_, rfl, fun h => h⟩)) ?_
      refine RT.t (ob_pickOr rfl rfl rfl id) ?_
      refine RT.nil ?_
      refine FinS.nil0 ?_
      repeat (first | refine JX.next ?_ | refine JX.normal_block ?_)
      refine J.sel [0, 1, 2, 3, 10, 50] (.cons rfl (.cons rfl (.cons rfl (.cons rfl (.cons rfl (.cons rfl .nil)))))) ?_
      repeat refine J.seq ?_
      refine J.cond rfl (fun ht50 => ?_) (fun ht50 => ?_)
      ·
        try simp only [decide_eq_true_eq, decide_eq_false_iff_not] at ht50
        repeat refine J.seq ?_
        refine J.plain ?_
        refine JO.t (ob_assign rfl) rfl ?_
        refine JO.t (ob_assign rfl) rfl ?_
        refine JO.nil ?_
        repeat (first | refine JX.next ?_ | refine JX.normal_block ?_)
        refine J.sel [8, 9] (.cons rfl (.cons rfl .nil)) ?_
        repeat refine J.seq ?_
        refine J.ret ?_
        repeat (first | refine JX.ret_pass ?_ | refine JX.ret_block ?_)
        have hb : allOk (rps.map RV.row) (kps.map RV.row) dn = false := by
          refine allOk_bad (i := i) (by omega) (by omega) ?_
          simp only [okL, hkl]
          cases h1 : (rps.getD i rv0).row.all okV <;> cases h2 : (kps.getD i rv0).row.all okV <;> rw [h1, h2] at ht50 <;> simp at ht50 ⊢ <;> omega
        exact JX.ret2sub rfl rfl rfl (by rw [topO_bad hb]; exact Sub.rowsNilN) rfl (Sub.isEq (by rw [topE_bad hb]))
      ·
        try simp only [decide_eq_true_eq, decide_eq_false_iff_not] at ht50
        refine J.skip ?_
        repeat (first | refine JX.next ?_ | refine JX.normal_block ?_)
        repeat refine J.seq ?_
        refine J.plain ?_
        refine JO.t (ob_move rfl) rfl ?_
        refine JO.t (ob_addc (cc := ((i + 1 : Nat) : Int)) rfl rfl (by omega) (by omega) (by omega)) rfl ?_
        refine JO.t (ob_assign rfl) rfl ?_
        refine JO.nil ?_
        repeat refine JX.normal_block ?_
        refine JX.roundS (i + 1) ?_ ?_ [0, 1, 2, 3, 10] ?_ ?_ ?_
        · exact ⟨by omega, fun p hp => by
    rw [List.take_add_one, lvs_get (by omega) (by omega)] at hp
    rcases List.mem_append.1 hp with hp | hp
    · exact hok p hp
    · rw [Option.toList_some, List.mem_singleton] at hp
      subst hp
      show okL dn ((rps.getD i rv0).row, (kps.getD i rv0).row) = true
      simp only [okL, hkl]
      cases h1 : (rps.getD i rv0).row.all okV <;> cases h2 : (kps.getD i rv0).row.all okV <;> rw [h1, h2] at ht50 <;> simp at ht50 ⊢ <;> omega⟩
        · exact (by omega)
        · exact (.cons rfl (.cons rfl (.cons rfl (.cons rfl (.cons rfl .nil)))))
        · repeat (first | exact .slnil | exact List.Sublist.refl _ | apply List.Sublist.cons_cons | apply List.Sublist.cons)
        · repeat (first | exact .slnil | exact List.Sublist.refl _ | apply List.Sublist.cons_cons | apply List.Sublist.cons)
    ·
      try simp only [decide_eq_true_eq, decide_eq_false_iff_not] at ht24
      repeat refine J.seq ?_
      refine J.exit ?_
      repeat (first | refine JX.hit ?_ | refine JX.miss rfl ?_ | refine JX.exit_pass ?_)
      repeat (first | refine JX.next ?_ | refine JX.normal_block ?_)
      have hi2 : i = rps.length := by omega
      subst hi2
      repeat refine J.seq ?_
      refine J.plain ?_
      refine JO.t (ob_move rfl) rfl ?_
      refine JO.t (ob_len un_sl_sl_api_Value rfl) rfl ?_
      refine JO.t (ob_assign rfl) rfl ?_
      refine JO.nil ?_
      repeat (first | refine JX.next ?_ | refine JX.normal_block ?_)
      refine J.sel [0, 1, 2, 3, 11] (.cons rfl (.cons rfl (.cons rfl (.cons rfl (.cons rfl .nil))))) ?_
      repeat refine J.seq ?_
      refine J.reg0 hmx (by kernel_rfl) (by kernel_rfl) ?_
      refine RT.t (ob_move rfl) ?_
      refine RT.t (ob_geq rfl rfl) ?_
      refine RT.t (ob_move rfl) ?_
      refine RT.g rfl rfl rfl (fun hg => ob_move (.inl rfl)) ?_
      refine RT.g rfl rfl rfl (fun hg => ob_move (.inl rfl)) ?_
      refine RT.g rfl rfl rfl (fun hg => ob_lss (.inr ⟨_, rfl, fun h => h⟩) (.inr ⟨_, rfl, fun h => h⟩)) ?_
      refine RT.t (ob_pickAnd rfl rfl rfl id) ?_
      refine RT.nil ?_
      refine FinS.nil0 ?_
      repeat (first | refine JX.next ?_ | refine JX.normal_block ?_)
      refine J.sel [0, 1, 2, 3, 11, 59] (.cons rfl (.cons rfl (.cons rfl (.cons rfl (.cons rfl (.cons rfl .nil)))))) ?_
      repeat refine J.seq ?_
      refine J.cond rfl (fun ht59 => ?_) (fun ht59 => ?_)
      ·
        try simp only [decide_eq_true_eq, decide_eq_false_iff_not] at ht59
        repeat refine J.seq ?_
        refine J.plain ?_
        refine JO.t (ob_move rfl) rfl ?_
        refine JO.t (ob_assign rfl) rfl ?_
        refine JO.nil ?_
        repeat (first | refine JX.next ?_ | refine JX.normal_block ?_)
        refine J.sel [0, 1, 2, 11] (.cons rfl (.cons rfl (.cons rfl (.cons rfl .nil)))) ?_
        have hg := allOk_good hrk hok
        obtain ⟨S, hS⟩ : ∃ S, S = (lvs rps kps).map LV.ln := ⟨_, rfl⟩
        have hSl : S.length = rps.length := by rw [hS, List.length_map, lvs_len hrk]
        have hSg : ∀ i, i < rps.length → S.getD i lnD = ((rps.getD i rv0).row, (kps.getD i rv0).row) := fun i hi => by rw [hS]; exact lns_get hi (by omega)
        have hSv : ∀ x ∈ S, x.2.length = dn.length := fun x hx => by
          rw [hS] at hx
          obtain ⟨p, hp, rfl⟩ := List.mem_map.1 hx
          have h := hok p (by rwa [List.take_of_length_le (by rw [lvs_len hrk]; omega)])
          simp only [okL, Bool.and_eq_true, beq_iff_eq] at h
          exact h.1.1
        have hkv : ∀ i, i < rps.length → (kps.getD i rv0).row.length = dn.length := fun i hi => by
          have h := hSv (S.getD i lnD) (by rw [getD_lt (by omega)]; exact List.getElem_mem _)
          rwa [hSg i hi] at h
        obtain ⟨T, hT⟩ : ∃ T, T = cut limit (srt (ltL dn) S) := ⟨_, rfl⟩
        have hTl := cut_len limit (srt (ltL dn) S)
        rw [← hT, srt_len, hSl] at hTl
        have h0 : 0 ≤ limit ∧ limit < (rps.length : Int) := by simpa using ht59
        have hT2 : (T.length : Int) = limit := by rw [hTl, if_neg (by omega)]; omega
        have hT3 : T.length ≤ rps.length := by omega
        refine J.coer (s := 11) (T' := .is (.int .i64 (T.length : Nat))) rfl (Sub.isEq (by rw [hT2])) ?_
        repeat refine J.seq ?_
        refine J.plain ?_
        refine JO.t (ob_move rfl) rfl ?_
        refine JO.t (ob_len un_sl_sl_api_Value rfl) rfl ?_
        refine JO.mkSl1 un_sl_bool (n := rps.length) (z := .bool false) (bytes := 1) (by kernel_rfl) rfl rfl rfl rfl rfl (by omega) (by omega) rfl (fun b63 => ?_)
        rw [show List.replicate rps.length (Value.bool false) = (List.replicate rps.length false).map Value.bool by simp]
        refine JO.t (ob_assign rfl) rfl ?_
        refine JO.nil ?_
        repeat (first | refine JX.next ?_ | refine JX.normal_block ?_)
        refine J.sel [0, 1, 2, 11, 12] (.cons rfl (.cons rfl (.cons rfl (.cons rfl (.cons rfl .nil))))) ?_
        repeat refine J.seq ?_
        refine J.plain ?_
        refine JO.t (ob_assign rfl) rfl ?_
        refine JO.nil ?_
        repeat (first | refine JX.next ?_ | refine JX.normal_block ?_)
        refine J.sel [0, 1, 2, 11, 12, 13] (.cons rfl (.cons rfl (.cons rfl (.cons rfl (.cons rfl (.cons rfl .nil)))))) ?_
        repeat refine J.seq ?_
        refine J.block ?_
        repeat refine J.seq ?_
        refine J.loopG (α := List Bool × List RV × Option (Nat × List Value) × Nat) (fun y => [(0, .is (.slice ra rps.length rc)), (1, .is (.slice ka kps.length kc)), (2, .is (.slice da dn.length dc)), (11, .is (.int .i64 (T.length : Nat))), (12, .is (.slice (some ⟨b63, 0, none⟩) rps.length rps.length)), (13, .is (sliceO y.2.2.1 y.2.1.length y.2.2.2))]) (fun y => ⟨b63, ty_bool, .is (.agg (y.1.map Value.bool).toArray)⟩ :: ownO y.2.2.1 ty_sl_api_Value []) (fun y => fun _ => True) (fun y => y.1.length = rps.length ∧ Grows RV.c 1 y.2.1 y.2.2.1 y.2.2.2 ∧ (∀ p ∈ y.2.1, p ∈ rps) ∧ y.2.1.map RV.row = (T.take y.2.1.length).map Prod.fst ∧ y.2.1.length ≤ T.length ∧ (rest S y.1).Perm ((srt (ltL dn) S).drop y.2.1.length) ∧ (y.2.1 = [] → y.2.2.1 = none)) (fun y => T.length - y.2.1.length) (List.replicate rps.length false, [], none, 0) [0, 1, 2, 11, 12, 13] (.cons rfl (.cons rfl (.cons rfl (.cons rfl (.cons rfl (.cons rfl .nil)))))) rfl (fun _ => trivial) ⟨by simp, rfl, fun p hp => absurd hp List.not_mem_nil, rfl, Nat.zero_le _, by rw [← hSl]; show (rest S (List.replicate S.length false)).Perm (List.drop 0 (srt (ltL dn) S)); rw [rest_none, List.drop_zero]; exact (srt_perm S).symm, fun _ => rfl⟩ fun ⟨tk, ps, st, cap⟩ ⟨htl, hG, hpm, hps, hpl, hrest, hzn⟩ => ?_
        try dsimp only
        try dsimp only at ps
        try dsimp only at st
        try dsimp only at cap
        try dsimp only at htl
        try dsimp only at hG
        try dsimp only at hpm
        try dsimp only at hps
        try dsimp only at hpl
        try dsimp only at hrest
        try dsimp only at hzn
        repeat refine J.seq ?_
        refine J.plain ?_
        refine JO.t (ob_move rfl) rfl ?_
        refine JO.t (ob_lenG hG un_sl_sl_api_Value rfl) rfl ?_
        refine JO.t (ob_move rfl) rfl ?_
        refine JO.t (ob_lss rfl rfl) rfl ?_
        refine JO.nil ?_
        repeat (first | refine JX.next ?_ | refine JX.normal_block ?_)
        refine J.sel [0, 1, 2, 11, 12, 13, 67] (.cons rfl (.cons rfl (.cons rfl (.cons rfl (.cons rfl (.cons rfl (.cons rfl .nil))))))) ?_
        repeat refine J.seq ?_
        refine J.cond rfl (fun ht67 => ?_) (fun ht67 => ?_)
        ·
          try simp only [decide_eq_true_eq, decide_eq_false_iff_not] at ht67
          refine J.skip ?_
          repeat (first | refine JX.next ?_ | refine JX.normal_block ?_)
          repeat refine J.seq ?_
          refine J.block ?_
          repeat refine J.seq ?_
          refine J.plain ?_
          refine JO.t (ob_assign rfl) rfl ?_
          refine JO.nil ?_
          repeat (first | refine JX.next ?_ | refine JX.normal_block ?_)
          refine J.sel [0, 1, 2, 11, 12, 13, 14] (.cons rfl (.cons rfl (.cons rfl (.cons rfl (.cons rfl (.cons rfl (.cons rfl .nil))))))) ?_
          repeat refine J.seq ?_
          refine J.plain ?_
          refine JO.t (ob_assign rfl) rfl ?_
          refine JO.nil ?_
          repeat (first | refine JX.next ?_ | refine JX.normal_block ?_)
          refine J.sel [0, 1, 2, 11, 12, 13, 14, 15] (.cons rfl (.cons rfl (.cons rfl (.cons rfl (.cons rfl (.cons rfl (.cons rfl (.cons rfl .nil)))))))) ?_
          repeat refine J.seq ?_
          refine J.block ?_
          repeat refine J.seq ?_
          refine J.loopF (α := Nat) (fun i => [(0, .is (.slice ra rps.length rc)), (1, .is (.slice ka kps.length kc)), (2, .is (.slice da dn.length dc)), (11, .is (.int .i64 (T.length : Nat))), (12, .is (.slice (some ⟨b63, 0, none⟩) rps.length rps.length)), (13, .is (sliceO st ps.length cap)), (14, .is (.int .i64 (bI (best (ltL dn) lnD S tk i)))), (15, .is (.int .i64 (i : Nat)))]) (fun i => i ≤ rps.length) (fun i => rps.length - i) 0 [0, 1, 2, 11, 12, 13, 14, 15] (.cons rfl (.cons rfl (.cons rfl (.cons rfl (.cons rfl (.cons rfl (.cons rfl (.cons rfl .nil)))))))) (Nat.zero_le _) fun i hi => ?_
          repeat refine J.seq ?_
          refine J.plain ?_
          refine JO.t (ob_move rfl) rfl ?_
          refine JO.t (ob_move rfl) rfl ?_
          refine JO.t (ob_len un_sl_sl_api_Value rfl) rfl ?_
          refine JO.t (ob_lss rfl rfl) rfl ?_
          refine JO.nil ?_
          repeat (first | refine JX.next ?_ | refine JX.normal_block ?_)
          refine J.sel [0, 1, 2, 11, 12, 13, 14, 15, 71] (.cons rfl (.cons rfl (.cons rfl (.cons rfl (.cons rfl (.cons rfl (.cons rfl (.cons rfl (.cons rfl .nil))))))))) ?_
          repeat refine J.seq ?_
          refine J.cond rfl (fun ht71 => ?_) (fun ht71 => ?_)
          ·
            try simp only [decide_eq_true_eq, decide_eq_false_iff_not] at ht71
            refine J.skip ?_
            repeat (first | refine JX.next ?_ | refine JX.normal_block ?_)
            repeat refine J.seq ?_
            refine J.block ?_
            have hr1 : (rps.getD i rv0).row.length ≤ 1048576 := hR _ (List.mem_map_of_mem (getD_mem (by omega)))
            have hBl := bI_lt (lt := ltL dn) (d := lnD) (xs := S) (tk := tk) i
            obtain ⟨B, hB⟩ : ∃ B, B = bI (best (ltL dn) lnD S tk i) := ⟨_, rfl⟩
            rw [← hB] at hBl
            rw [← hB]
            repeat refine J.seq ?_
            refine J.reg0 hmx (by kernel_rfl) (by kernel_rfl) ?_
            refine RT.t (ob_move rfl) ?_
            refine RT.t (ob_move rfl) ?_
            refine RT.t (ob_indexAddr el_sl_bool rfl rfl rfl (by omega) (by omega)) ?_
            refine RT.t (ob_ld1 sz_bool rfl (nth_bool (i := i) (by omega) (by omega))) ?_
            refine RT.t (ob_not rfl) ?_
            refine RT.t (ob_move rfl) ?_
            refine RT.g rfl rfl rfl (fun hg => ob_move (.inl rfl)) ?_
            refine RT.g rfl rfl rfl (fun hg => ob_lss (.inr ⟨_, rfl, fun h => h⟩) (.inl rfl)) ?_
            refine RT.g rfl rfl rfl (fun hg => ob_move (.inr ⟨_, rfl, fun h => h⟩)) ?_
            refine RT.gg rfl rfl rfl (fun hg => (ob_move (.inl rfl))) ?_
            refine RT.gg rfl rfl rfl (fun hg => (ob_move (.inl rfl))) ?_
            refine RT.gg rfl rfl rfl (fun hg => (ob_indexAddr el_sl_sl_api_Value (.inr ⟨_, rfl, fun h => h⟩) (hra (by omega)) (.inr ⟨_, rfl, fun h => h⟩) (by omega) (by omega))) ?_
            refine RT.gg rfl rfl rfl (fun hg => (ob_loadG1 (enc := RV.c) (sz := 1) (i := i) (j := 0) (y := rps.getD i rv0) (u := (rps.getD i rv0).v) sz_sl_api_Value (.inr ⟨_, rfl, fun h => h⟩) (by repeat (first | exact List.mem_cons_self | apply List.mem_cons_of_mem)) (hra (by omega)) (getD_some (by omega)) (by omega) rfl)) ?_
            refine RT.gg rfl rfl rfl (fun hg => (ob_move (.inl rfl))) ?_
            refine RT.gg rfl rfl rfl (fun hg => (ob_move (.inl rfl))) ?_
            refine RT.gg rfl rfl rfl (fun hg => (ob_indexAddr el_sl_sl_api_Value (.inr ⟨_, rfl, fun h => h⟩) (hka (by omega)) (.inr ⟨_, rfl, fun h => h⟩) (by omega) (by omega))) ?_
            refine RT.gg rfl rfl rfl (fun hg => (ob_loadG1 (enc := RV.c) (sz := 1) (i := i) (j := 0) (y := kps.getD i rv0) (u := (kps.getD i rv0).v) sz_sl_api_Value (.inr ⟨_, rfl, fun h => h⟩) (by repeat (first | exact List.mem_cons_self | apply List.mem_cons_of_mem)) (hka (by omega)) (getD_some (by omega)) (by omega) rfl)) ?_
            refine RT.gg rfl rfl rfl (fun hg => (ob_move (.inl rfl))) ?_
            refine RT.gg rfl rfl rfl (fun hg => (ob_move (.inl rfl))) ?_
            refine RT.gg rfl rfl rfl (fun hg => (ob_indexAddr el_sl_sl_api_Value (.inr ⟨_, rfl, fun h => h⟩) (hra (by omega)) (.inr ⟨_, rfl, fun h => h⟩) (by simp at hg; omega) (by omega))) ?_
            refine RT.gg rfl rfl rfl (fun hg => (ob_loadG1 (enc := RV.c) (sz := 1) (i := B.toNat) (j := 0) (y := rps.getD B.toNat rv0) (u := (rps.getD B.toNat rv0).v) sz_sl_api_Value (.inr ⟨_, rfl, fun h => h⟩) (by repeat (first | exact List.mem_cons_self | apply List.mem_cons_of_mem)) (hra (by omega)) (getD_some (by omega)) (by omega) rfl)) ?_
            refine RT.gg rfl rfl rfl (fun hg => (ob_move (.inl rfl))) ?_
            refine RT.gg rfl rfl rfl (fun hg => (ob_move (.inl rfl))) ?_
            refine RT.gg rfl rfl rfl (fun hg => (ob_indexAddr el_sl_sl_api_Value (.inr ⟨_, rfl, fun h => h⟩) (hka (by omega)) (.inr ⟨_, rfl, fun h => h⟩) (by simp at hg; omega) (by omega))) ?_
            refine RT.gg rfl rfl rfl (fun hg => (ob_loadG1 (enc := RV.c) (sz := 1) (i := B.toNat) (j := 0) (y := kps.getD B.toNat rv0) (u := (kps.getD B.toNat rv0).v) sz_sl_api_Value (.inr ⟨_, rfl, fun h => h⟩) (by repeat (first | exact List.mem_cons_self | apply List.mem_cons_of_mem)) (hka (by omega)) (getD_some (by omega)) (by omega) rfl)) ?_
            refine RT.gg rfl rfl rfl (fun hg => (ob_move (.inl rfl))) ?_
            refine RT.gg rfl rfl rfl (fun hg => (ob_call (.inl rfl) (c_ref15_ahead dn (rps.getD i rv0).row (kps.getD i rv0).row (rps.getD B.toNat rv0).row (kps.getD B.toNat rv0).row (by omega) (hkv i (by omega)) (hkv B.toNat (by omega)) (by omega)) (.sub (.inr ⟨_, rfl, fun h => h⟩) (Sub.rvS (p := rps.getD i rv0) (getD_mem (by omega)) (by repeat (first | exact List.mem_cons_self | apply List.mem_cons_of_mem))) (.sub (.inr ⟨_, rfl, fun h => h⟩) (Sub.rvS (p := kps.getD i rv0) (getD_mem (by omega)) (by repeat (first | exact List.mem_cons_self | apply List.mem_cons_of_mem))) (.sub (.inr ⟨_, rfl, fun h => h⟩) (Sub.rvS (p := rps.getD B.toNat rv0) (getD_mem (by omega)) (by repeat (first | exact List.mem_cons_self | apply List.mem_cons_of_mem))) (.sub (.inr ⟨_, rfl, fun h => h⟩) (Sub.rvS (p := kps.getD B.toNat rv0) (getD_mem (by omega)) (by repeat (first | exact List.mem_cons_self | apply List.mem_cons_of_mem))) (.sub (.inr ⟨_, rfl, fun h => h⟩) (Sub.slFact (by repeat (first | exact List.mem_cons_self | apply List.mem_cons_of_mem))) .nil))))))) ?_
            refine RT.g rfl rfl rfl (fun hg => ob_pickOr (.inr ⟨_, rfl, fun h => h⟩) (.inl rfl) (.inl rfl) (fun h => ⟨hg, h⟩)) ?_
            refine RT.t (ob_pickAnd rfl rfl rfl id) ?_
            refine RT.nil ?_
            refine FinS.nil0 ?_
            repeat (first | refine JX.next ?_ | refine JX.normal_block ?_)
            refine J.sel [0, 1, 2, 11, 12, 13, 14, 15, 102] (.cons rfl (.cons rfl (.cons rfl (.cons rfl (.cons rfl (.cons rfl (.cons rfl (.cons rfl (.cons rfl .nil))))))))) ?_
            repeat refine J.seq ?_
            refine J.cond rfl (fun ht102 => ?_) (fun ht102 => ?_)
            ·
              try simp only [decide_eq_true_eq, decide_eq_false_iff_not] at ht102
              repeat refine J.seq ?_
              refine J.plain ?_
              refine JO.t (ob_move rfl) rfl ?_
              refine JO.t (ob_assign rfl) rfl ?_
              refine JO.nil ?_
              repeat (first | refine JX.next ?_ | refine JX.normal_block ?_)
              refine J.sel [0, 1, 2, 11, 12, 13, 14, 15] (.cons rfl (.cons rfl (.cons rfl (.cons rfl (.cons rfl (.cons rfl (.cons rfl (.cons rfl .nil)))))))) ?_
              have hn2 : bI (best (ltL dn) lnD S tk (i + 1)) = (i : Int) := by
                refine best_yes ?_
                rw [hSg i (by omega), hSg _ (by omega), ← hB]
                exact ht102
              rw [← hn2]
              repeat refine J.seq ?_
              refine J.plain ?_
              refine JO.t (ob_move rfl) rfl ?_
              refine JO.t (ob_addc (cc := ((i + 1 : Nat) : Int)) rfl rfl (by omega) (by omega) (by omega)) rfl ?_
              refine JO.t (ob_assign rfl) rfl ?_
              refine JO.nil ?_
              repeat refine JX.normal_block ?_
              refine JX.roundS (i + 1) ?_ ?_ [0, 1, 2, 11, 12, 13, 14, 15] ?_ ?_ ?_
              · exact (by omega)
              · exact (by omega)
              · exact (.cons rfl (.cons rfl (.cons rfl (.cons rfl (.cons rfl (.cons rfl (.cons rfl (.cons rfl .nil))))))))
              · repeat (first | exact .slnil | exact List.Sublist.refl _ | apply List.Sublist.cons_cons | apply List.Sublist.cons)
              · repeat (first | exact .slnil | exact List.Sublist.refl _ | apply List.Sublist.cons_cons | apply List.Sublist.cons)
            ·
              try simp only [decide_eq_true_eq, decide_eq_false_iff_not] at ht102
              refine J.skip ?_
              repeat (first | refine JX.next ?_ | refine JX.normal_block ?_)
              have hn2 : bI (best (ltL dn) lnD S tk (i + 1)) = B := by
                rw [hB]
                refine best_no ?_
                rw [hSg i (by omega), hSg _ (by omega), ← hB]
                exact ht102
              rw [← hn2]
              repeat refine J.seq ?_
              refine J.plain ?_
              refine JO.t (ob_move rfl) rfl ?_
              refine JO.t (ob_addc (cc := ((i + 1 : Nat) : Int)) rfl rfl (by omega) (by omega) (by omega)) rfl ?_
              refine JO.t (ob_assign rfl) rfl ?_
              refine JO.nil ?_
              repeat refine JX.normal_block ?_
              refine JX.roundS (i + 1) ?_ ?_ [0, 1, 2, 11, 12, 13, 14, 15] ?_ ?_ ?_
              · exact (by omega)
              · exact (by omega)
              · exact (.cons rfl (.cons rfl (.cons rfl (.cons rfl (.cons rfl (.cons rfl (.cons rfl (.cons rfl .nil))))))))
              · repeat (first | exact .slnil | exact List.Sublist.refl _ | apply List.Sublist.cons_cons | apply List.Sublist.cons)
              · repeat (first | exact .slnil | exact List.Sublist.refl _ | apply List.Sublist.cons_cons | apply List.Sublist.cons)
          ·
            try simp only [decide_eq_true_eq, decide_eq_false_iff_not] at ht71
            repeat refine J.seq ?_
            refine J.exit ?_
            repeat (first | refine JX.hit ?_ | refine JX.miss rfl ?_ | refine JX.exit_pass ?_)
            repeat (first | refine JX.next ?_ | refine JX.normal_block ?_)
            have hi2 : i = rps.length := by omega
            subst hi2
            obtain ⟨j, hj, hjl, hsj, hrest2⟩ := pick_step (d := lnD) (ordL dn) hSv (htl.trans hSl.symm) (m := ps.length) (by omega) hrest
            rw [hSl] at hj hjl
            have hTj : T[ps.length]? = some ((rps.getD j rv0).row, (kps.getD j rv0).row) := by
              rw [hT, cut_get (by rw [← hT]; omega), hsj, hSg j hjl]
            rw [hj, show bI (some j) = (j : Int) from rfl]
            repeat refine J.seq ?_
            refine J.plain ?_
            refine JO.t (ob_move rfl) rfl ?_
            refine JO.t (ob_move rfl) rfl ?_
            refine JO.t (ob_indexAddr el_sl_bool rfl rfl rfl (by omega) (by omega)) rfl ?_
            refine JO.m (obm_storeF1 (cs := tk.map Value.bool) (cs' := (tk.set j true).map Value.bool) rfl rfl rfl rfl (by repeat (first | exact .here | apply Upd.there)) (by rw [show 0 + Int.toNat (j : Int) * 1 = j by omega]; exact splice_set Value.bool tk j true (by omega)) (Nat.ble_eq_true_of_le (by rw [List.length_map]; omega)) ss_bool) (by rfl) ?_
            refine JO.nil ?_
            repeat (first | refine JX.next ?_ | refine JX.normal_block ?_)
            refine J.sel [0, 1, 2, 11, 12, 13, 14] (.cons rfl (.cons rfl (.cons rfl (.cons rfl (.cons rfl (.cons rfl (.cons rfl .nil))))))) ?_
            repeat refine J.seq ?_
            refine J.plain ?_
            refine JO.t (ob_move rfl) rfl ?_
            refine JO.t (ob_move rfl) rfl ?_
            refine JO.t (ob_move rfl) rfl ?_
            refine JO.t (ob_indexAddr el_sl_sl_api_Value rfl (hra (by omega)) rfl (by omega) (by omega)) rfl ?_
            refine JO.t (ob_loadG1 (enc := RV.c) (sz := 1) (i := j) (j := 0) (y := rps.getD j rv0) (u := (rps.getD j rv0).v) sz_sl_api_Value rfl (by repeat (first | exact List.mem_cons_self | apply List.mem_cons_of_mem)) (hra (by omega)) (getD_some (by omega)) (by omega) rfl) rfl ?_
            refine JO.t (ob_buildSlice (cs := [_]) sl_sl_sl_api_Value (by omega) (by omega) (.cons rfl .nil) rfl rfl rfl) rfl ?_
            refine JO.apX ([rps.getD j rv0]) ap_sl_sl_api_Value RV.c_len (by repeat (first | exact .here | apply Cx.past | apply Cx.there)) hG rfl rfl (fun L => src_new un_sl_sl_api_Value rfl rfl) (by simp) (by simp; omega) (by simp; omega) rfl (fun st1 cp1 hG1 => ?_)
            try dsimp only
            refine JO.t (ob_assign rfl) rfl ?_
            refine JO.nil ?_
            repeat refine JX.normal_block ?_
            refine JX.roundG (x := (tk, ps, st, cap)) (tk.set j true, ps ++ [rps.getD j rv0], st1, cp1) ?_ ?_ [0, 1, 2, 11, 12, 13] ?_ ?_ ?_ ?_
            · exact ⟨by show (tk.set j true).length = _; rw [List.length_set]; exact htl, hG1, fun p hp => (List.mem_append.1 hp).elim (hpm p) (fun h => by rw [List.mem_singleton.1 h]; exact getD_mem (by omega)), by
    show (ps ++ [rps.getD j rv0]).map RV.row = (T.take (ps ++ [rps.getD j rv0]).length).map Prod.fst
    rw [List.map_append, List.length_append, List.length_singleton, List.take_add_one, List.map_append, ← hps, hTj]
    rfl, by show (ps ++ [rps.getD j rv0]).length ≤ _; rw [List.length_append, List.length_singleton]; omega, by
    show (rest S (tk.set j true)).Perm (List.drop (ps ++ [rps.getD j rv0]).length (srt (ltL dn) S))
    rw [List.length_append, List.length_singleton]; exact hrest2, fun h => absurd h (by simp)⟩
            · exact (by show T.length - (ps ++ [rps.getD j rv0]).length < T.length - ps.length; rw [List.length_append, List.length_singleton]; omega)
            · exact (.cons rfl (.cons rfl (.cons rfl (.cons rfl (.cons rfl (.cons rfl .nil))))))
            · repeat (first | exact .all | exact .nil | refine Has.own (by repeat (first | exact .here | apply Tl.past | apply Tl.there)) ?_ | refine Has.cons (by repeat (first | exact .here | apply Pk.past | apply Pk.there)) ?_)
            · exact fun G hG => by repeat (first | exact hG | refine List.mem_cons_of_mem _ ?_)
            · exact fun _ _ _ => fun _ _ => trivial
        ·
          try simp only [decide_eq_true_eq, decide_eq_false_iff_not] at ht67
          repeat refine J.seq ?_
          refine J.exit ?_
          repeat (first | refine JX.hit ?_ | refine JX.miss rfl ?_ | refine JX.exit_pass ?_)
          repeat (first | refine JX.next ?_ | refine JX.normal_block ?_)
          have hTe : T.take ps.length = T := List.take_of_length_le (by omega)
          rw [hTe] at hps
          refine J.freezeO RV.c_len hG (e := ty_sl_api_Value) (by repeat (first | exact .here | apply Tl.past | apply Tl.there)) (fun _ h => h) rfl rfl ?_
          repeat refine J.seq ?_
          refine J.plain ?_
          refine JO.t (ob_move rfl) rfl ?_
          refine JO.t (ob_assign rfl) rfl ?_
          refine JO.t (ob_assign rfl) rfl ?_
          refine JO.nil ?_
          repeat (first | refine JX.next ?_ | refine JX.normal_block ?_)
          refine J.sel [8, 9] (.cons rfl (.cons rfl .nil)) ?_
          repeat refine J.seq ?_
          refine J.ret ?_
          repeat (first | refine JX.ret_pass ?_ | refine JX.ret_block ?_)
          have hrows : ps.map RV.row = topRows limit dn ((rps.map RV.row).zip (kps.map RV.row)) := by
            rw [hps, hT, hS, lvs_ln]
            rfl
          exact JX.ret2sub rfl rfl rfl (by rw [topO_ok hg, ← hrows]; exact Sub.rowsON hG hzn (by repeat (first | exact List.mem_cons_self | apply List.mem_cons_of_mem)) (rps := rps) (by repeat (first | exact List.mem_cons_self | apply List.mem_cons_of_mem)) hpm rfl) rfl (Sub.isEq (by rw [topE_ok hg]))
      ·
        try simp only [decide_eq_true_eq, decide_eq_false_iff_not] at ht59
        refine J.skip ?_
        repeat (first | refine JX.next ?_ | refine JX.normal_block ?_)
        have hg := allOk_good hrk hok
        obtain ⟨S, hS⟩ : ∃ S, S = (lvs rps kps).map LV.ln := ⟨_, rfl⟩
        have hSl : S.length = rps.length := by rw [hS, List.length_map, lvs_len hrk]
        have hSg : ∀ i, i < rps.length → S.getD i lnD = ((rps.getD i rv0).row, (kps.getD i rv0).row) := fun i hi => by rw [hS]; exact lns_get hi (by omega)
        have hSv : ∀ x ∈ S, x.2.length = dn.length := fun x hx => by
          rw [hS] at hx
          obtain ⟨p, hp, rfl⟩ := List.mem_map.1 hx
          have h := hok p (by rwa [List.take_of_length_le (by rw [lvs_len hrk]; omega)])
          simp only [okL, Bool.and_eq_true, beq_iff_eq] at h
          exact h.1.1
        have hkv : ∀ i, i < rps.length → (kps.getD i rv0).row.length = dn.length := fun i hi => by
          have h := hSv (S.getD i lnD) (by rw [getD_lt (by omega)]; exact List.getElem_mem _)
          rwa [hSg i hi] at h
        obtain ⟨T, hT⟩ : ∃ T, T = cut limit (srt (ltL dn) S) := ⟨_, rfl⟩
        have hTl := cut_len limit (srt (ltL dn) S)
        rw [← hT, srt_len, hSl] at hTl
        have hT2 : T.length = rps.length := by
          rw [hTl]
          split
          · rfl
          · simp at ht59; omega
        have hT3 : T.length ≤ rps.length := by omega
        refine J.coer (s := 11) (T' := .is (.int .i64 (T.length : Nat))) rfl (Sub.isEq (by rw [hT2])) ?_
        repeat refine J.seq ?_
        refine J.plain ?_
        refine JO.t (ob_move rfl) rfl ?_
        refine JO.t (ob_len un_sl_sl_api_Value rfl) rfl ?_
        refine JO.mkSl1 un_sl_bool (n := rps.length) (z := .bool false) (bytes := 1) (by kernel_rfl) rfl rfl rfl rfl rfl (by omega) (by omega) rfl (fun b63 => ?_)
        rw [show List.replicate rps.length (Value.bool false) = (List.replicate rps.length false).map Value.bool by simp]
        refine JO.t (ob_assign rfl) rfl ?_
        refine JO.nil ?_
        repeat (first | refine JX.next ?_ | refine JX.normal_block ?_)
        refine J.sel [0, 1, 2, 11, 12] (.cons rfl (.cons rfl (.cons rfl (.cons rfl (.cons rfl .nil))))) ?_
        repeat refine J.seq ?_
        refine J.plain ?_
        refine JO.t (ob_assign rfl) rfl ?_
        refine JO.nil ?_
        repeat (first | refine JX.next ?_ | refine JX.normal_block ?_)
        refine J.sel [0, 1, 2, 11, 12, 13] (.cons rfl (.cons rfl (.cons rfl (.cons rfl (.cons rfl (.cons rfl .nil)))))) ?_
        repeat refine J.seq ?_
        refine J.block ?_
        repeat refine J.seq ?_
        refine J.loopG (α := List Bool × List RV × Option (Nat × List Value) × Nat) (fun y => [(0, .is (.slice ra rps.length rc)), (1, .is (.slice ka kps.length kc)), (2, .is (.slice da dn.length dc)), (11, .is (.int .i64 (T.length : Nat))), (12, .is (.slice (some ⟨b63, 0, none⟩) rps.length rps.length)), (13, .is (sliceO y.2.2.1 y.2.1.length y.2.2.2))]) (fun y => ⟨b63, ty_bool, .is (.agg (y.1.map Value.bool).toArray)⟩ :: ownO y.2.2.1 ty_sl_api_Value []) (fun y => fun _ => True) (fun y => y.1.length = rps.length ∧ Grows RV.c 1 y.2.1 y.2.2.1 y.2.2.2 ∧ (∀ p ∈ y.2.1, p ∈ rps) ∧ y.2.1.map RV.row = (T.take y.2.1.length).map Prod.fst ∧ y.2.1.length ≤ T.length ∧ (rest S y.1).Perm ((srt (ltL dn) S).drop y.2.1.length) ∧ (y.2.1 = [] → y.2.2.1 = none)) (fun y => T.length - y.2.1.length) (List.replicate rps.length false, [], none, 0) [0, 1, 2, 11, 12, 13] (.cons rfl (.cons rfl (.cons rfl (.cons rfl (.cons rfl (.cons rfl .nil)))))) rfl (fun _ => trivial) ⟨by simp, rfl, fun p hp => absurd hp List.not_mem_nil, rfl, Nat.zero_le _, by rw [← hSl]; show (rest S (List.replicate S.length false)).Perm (List.drop 0 (srt (ltL dn) S)); rw [rest_none, List.drop_zero]; exact (srt_perm S).symm, fun _ => rfl⟩ fun ⟨tk, ps, st, cap⟩ ⟨htl, hG, hpm, hps, hpl, hrest, hzn⟩ => ?_
        try dsimp only
        try dsimp only at ps
        try dsimp only at st
        try dsimp only at cap
        try dsimp only at htl
        try dsimp only at hG
        try dsimp only at hpm
        try dsimp only at hps
        try dsimp only at hpl
        try dsimp only at hrest
        try dsimp only at hzn
        repeat refine J.seq ?_
        refine J.plain ?_
        refine JO.t (ob_move rfl) rfl ?_
        refine JO.t (ob_lenG hG un_sl_sl_api_Value rfl) rfl ?_
        refine JO.t (ob_move rfl) rfl ?_
        refine JO.t (ob_lss rfl rfl) rfl ?_
        refine JO.nil ?_
        repeat (first | refine JX.next ?_ | refine JX.normal_block ?_)
        refine J.sel [0, 1, 2, 11, 12, 13, 67] (.cons rfl (.cons rfl (.cons rfl (.cons rfl (.cons rfl (.cons rfl (.cons rfl .nil))))))) ?_
        repeat refine J.seq ?_
        refine J.cond rfl (fun ht67 => ?_) (fun ht67 => ?_)
        ·
          try simp only [decide_eq_true_eq, decide_eq_false_iff_not] at ht67
          refine J.skip ?_
          repeat (first | refine JX.next ?_ | refine JX.normal_block ?_)
          repeat refine J.seq ?_
          refine J.block ?_
          repeat refine J.seq ?_
          refine J.plain ?_
          refine JO.t (ob_assign rfl) rfl ?_
          refine JO.nil ?_
          repeat (first | refine JX.next ?_ | refine JX.normal_block ?_)
          refine J.sel [0, 1, 2, 11, 12, 13, 14] (.cons rfl (.cons rfl (.cons rfl (.cons rfl (.cons rfl (.cons rfl (.cons rfl .nil))))))) ?_
          repeat refine J.seq ?_
          refine J.plain ?_
          refine JO.t (ob_assign rfl) rfl ?_
          refine JO.nil ?_
          repeat (first | refine JX.next ?_ | refine JX.normal_block ?_)
          refine J.sel [0, 1, 2, 11, 12, 13, 14, 15] (.cons rfl (.cons rfl (.cons rfl (.cons rfl (.cons rfl (.cons rfl (.cons rfl (.cons rfl .nil)))))))) ?_
          repeat refine J.seq ?_
          refine J.block ?_
          repeat refine J.seq ?_
          refine J.loopF (α := Nat) (fun i => [(0, .is (.slice ra rps.length rc)), (1, .is (.slice ka kps.length kc)), (2, .is (.slice da dn.length dc)), (11, .is (.int .i64 (T.length : Nat))), (12, .is (.slice (some ⟨b63, 0, none⟩) rps.length rps.length)), (13, .is (sliceO st ps.length cap)), (14, .is (.int .i64 (bI (best (ltL dn) lnD S tk i)))), (15, .is (.int .i64 (i : Nat)))]) (fun i => i ≤ rps.length) (fun i => rps.length - i) 0 [0, 1, 2, 11, 12, 13, 14, 15] (.cons rfl (.cons rfl (.cons rfl (.cons rfl (.cons rfl (.cons rfl (.cons rfl (.cons rfl .nil)))))))) (Nat.zero_le _) fun i hi => ?_
          repeat refine J.seq ?_
          refine J.plain ?_
          refine JO.t (ob_move rfl) rfl ?_
          refine JO.t (ob_move rfl) rfl ?_
          refine JO.t (ob_len un_sl_sl_api_Value rfl) rfl ?_
          refine JO.t (ob_lss rfl rfl) rfl ?_
          refine JO.nil ?_
          repeat (first | refine JX.next ?_ | refine JX.normal_block ?_)
          refine J.sel [0, 1, 2, 11, 12, 13, 14, 15, 71] (.cons rfl (.cons rfl (.cons rfl (.cons rfl (.cons rfl (.cons rfl (.cons rfl (.cons rfl (.cons rfl .nil))))))))) ?_
          repeat refine J.seq ?_
          refine J.cond rfl (fun ht71 => ?_) (fun ht71 => ?_)
          ·
            try simp only [decide_eq_true_eq, decide_eq_false_iff_not] at ht71
            refine J.skip ?_
            repeat (first | refine JX.next ?_ | refine JX.normal_block ?_)
            repeat refine J.seq ?_
            refine J.block ?_
            have hr1 : (rps.getD i rv0).row.length ≤ 1048576 := hR _ (List.mem_map_of_mem (getD_mem (by omega)))
            have hBl := bI_lt (lt := ltL dn) (d := lnD) (xs := S) (tk := tk) i
            obtain ⟨B, hB⟩ : ∃ B, B = bI (best (ltL dn) lnD S tk i) := ⟨_, rfl⟩
            rw [← hB] at hBl
            rw [← hB]
            repeat refine J.seq ?_
            refine J.reg0 hmx (by kernel_rfl) (by kernel_rfl) ?_
            refine RT.t (ob_move rfl) ?_
            refine RT.t (ob_move rfl) ?_
            refine RT.t (ob_indexAddr el_sl_bool rfl rfl rfl (by omega) (by omega)) ?_
            refine RT.t (ob_ld1 sz_bool rfl (nth_bool (i := i) (by omega) (by omega))) ?_
            refine RT.t (ob_not rfl) ?_
            refine RT.t (ob_move rfl) ?_
            refine RT.g rfl rfl rfl (fun hg => ob_move (.inl rfl)) ?_
            refine RT.g rfl rfl rfl (fun hg => ob_lss (.inr ⟨_, rfl, fun h => h⟩) (.inl rfl)) ?_
            refine RT.g rfl rfl rfl (fun hg => ob_move (.inr ⟨_, rfl, fun h => h⟩)) ?_
            refine RT.gg rfl rfl rfl (fun hg => (ob_move (.inl rfl))) ?_
            refine RT.gg rfl rfl rfl (fun hg => (ob_move (.inl rfl))) ?_
            refine RT.gg rfl rfl rfl (fun hg => (ob_indexAddr el_sl_sl_api_Value (.inr ⟨_, rfl, fun h => h⟩) (hra (by omega)) (.inr ⟨_, rfl, fun h => h⟩) (by omega) (by omega))) ?_
            refine RT.gg rfl rfl rfl (fun hg => (ob_loadG1 (enc := RV.c) (sz := 1) (i := i) (j := 0) (y := rps.getD i rv0) (u := (rps.getD i rv0).v) sz_sl_api_Value (.inr ⟨_, rfl, fun h => h⟩) (by repeat (first | exact List.mem_cons_self | apply List.mem_cons_of_mem)) (hra (by omega)) (getD_some (by omega)) (by omega) rfl)) ?_
            refine RT.gg rfl rfl rfl (fun hg => (ob_move (.inl rfl))) ?_
            refine RT.gg rfl rfl rfl (fun hg => (ob_move (.inl rfl))) ?_
            refine RT.gg rfl rfl rfl (fun hg => (ob_indexAddr el_sl_sl_api_Value (.inr ⟨_, rfl, fun h => h⟩) (hka (by omega)) (.inr ⟨_, rfl, fun h => h⟩) (by omega) (by omega))) ?_
            refine RT.gg rfl rfl rfl (fun hg => (ob_loadG1 (enc := RV.c) (sz := 1) (i := i) (j := 0) (y := kps.getD i rv0) (u := (kps.getD i rv0).v) sz_sl_api_Value (.inr ⟨_, rfl, fun h => h⟩) (by repeat (first | exact List.mem_cons_self | apply List.mem_cons_of_mem)) (hka (by omega)) (getD_some (by omega)) (by omega) rfl)) ?_
            refine RT.gg rfl rfl rfl (fun hg => (ob_move (.inl rfl))) ?_
            refine RT.gg rfl rfl rfl (fun hg => (ob_move (.inl rfl))) ?_
            refine RT.gg rfl rfl rfl (fun hg => (ob_indexAddr el_sl_sl_api_Value (.inr ⟨_, rfl, fun h => h⟩) (hra (by omega)) (.inr ⟨_, rfl, fun h => h⟩) (by simp at hg; omega) (by omega))) ?_
            refine RT.gg rfl rfl rfl (fun hg => (ob_loadG1 (enc := RV.c) (sz := 1) (i := B.toNat) (j := 0) (y := rps.getD B.toNat rv0) (u := (rps.getD B.toNat rv0).v) sz_sl_api_Value (.inr ⟨_, rfl, fun h => h⟩) (by repeat (first | exact List.mem_cons_self | apply List.mem_cons_of_mem)) (hra (by omega)) (getD_some (by omega)) (by omega) rfl)) ?_
            refine RT.gg rfl rfl rfl (fun hg => (ob_move (.inl rfl))) ?_
            refine RT.gg rfl rfl rfl (fun hg => (ob_move (.inl rfl))) ?_
            refine RT.gg rfl rfl rfl (fun hg => (ob_indexAddr el_sl_sl_api_Value (.inr ⟨_, rfl, fun h => h⟩) (hka (by omega)) (.inr ⟨_, rfl, fun h => h⟩) (by simp at hg; omega) (by omega))) ?_
            refine RT.gg rfl rfl rfl (fun hg => (ob_loadG1 (enc := RV.c) (sz := 1) (i := B.toNat) (j := 0) (y := kps.getD B.toNat rv0) (u := (kps.getD B.toNat rv0).v) sz_sl_api_Value (.inr ⟨_, rfl, fun h => h⟩) (by repeat (first | exact List.mem_cons_self | apply List.mem_cons_of_mem)) (hka (by omega)) (getD_some (by omega)) (by omega) rfl)) ?_
            refine RT.gg rfl rfl rfl (fun hg => (ob_move (.inl rfl))) ?_
            refine RT.gg rfl rfl rfl (fun hg => (ob_call (.inl rfl) (c_ref15_ahead dn (rps.getD i rv0).row (kps.getD i rv0).row (rps.getD B.toNat rv0).row (kps.getD B.toNat rv0).row (by omega) (hkv i (by omega)) (hkv B.toNat (by omega)) (by omega)) (.sub (.inr ⟨_, rfl, fun h => h⟩) (Sub.rvS (p := rps.getD i rv0) (getD_mem (by omega)) (by repeat (first | exact List.mem_cons_self | apply List.mem_cons_of_mem))) (.sub (.inr ⟨_, rfl, fun h => h⟩) (Sub.rvS (p := kps.getD i rv0) (getD_mem (by omega)) (by repeat (first | exact List.mem_cons_self | apply List.mem_cons_of_mem))) (.sub (.inr ⟨_, rfl, fun h => h⟩) (Sub.rvS (p := rps.getD B.toNat rv0) (getD_mem (by omega)) (by repeat (first | exact List.mem_cons_self | apply List.mem_cons_of_mem))) (.sub (.inr ⟨_, rfl, fun h => h⟩) (Sub.rvS (p := kps.getD B.toNat rv0) (getD_mem (by omega)) (by repeat (first | exact List.mem_cons_self | apply List.mem_cons_of_mem))) (.sub (.inr ⟨_, rfl, fun h => h⟩) (Sub.slFact (by repeat (first | exact List.mem_cons_self | apply List.mem_cons_of_mem))) .nil))))))) ?_
            refine RT.g rfl rfl rfl (fun hg => ob_pickOr (.inr ⟨_, rfl, fun h => h⟩) (.inl rfl) (.inl rfl) (fun h => ⟨hg, h⟩)) ?_
            refine RT.t (ob_pickAnd rfl rfl rfl id) ?_
            refine RT.nil ?_
            refine FinS.nil0 ?_
            repeat (first | refine JX.next ?_ | refine JX.normal_block ?_)
            refine J.sel [0, 1, 2, 11, 12, 13, 14, 15, 102] (.cons rfl (.cons rfl (.cons rfl (.cons rfl (.cons rfl (.cons rfl (.cons rfl (.cons rfl (.cons rfl .nil))))))))) ?_
            repeat refine J.seq ?_
            refine J.cond rfl (fun ht102 => ?_) (fun ht102 => ?_)
            ·
              try simp only [decide_eq_true_eq, decide_eq_false_iff_not] at ht102
              repeat refine J.seq ?_
              refine J.plain ?_
              refine JO.t (ob_move rfl) rfl ?_
              refine JO.t (ob_assign rfl) rfl ?_
              refine JO.nil ?_
              repeat (first | refine JX.next ?_ | refine JX.normal_block ?_)
              refine J.sel [0, 1, 2, 11, 12, 13, 14, 15] (.cons rfl (.cons rfl (.cons rfl (.cons rfl (.cons rfl (.cons rfl (.cons rfl (.cons rfl .nil)))))))) ?_
              have hn2 : bI (best (ltL dn) lnD S tk (i + 1)) = (i : Int) := by
                refine best_yes ?_
                rw [hSg i (by omega), hSg _ (by omega), ← hB]
                exact ht102
              rw [← hn2]
              repeat refine J.seq ?_
              refine J.plain ?_
              refine JO.t (ob_move rfl) rfl ?_
              refine JO.t (ob_addc (cc := ((i + 1 : Nat) : Int)) rfl rfl (by omega) (by omega) (by omega)) rfl ?_
              refine JO.t (ob_assign rfl) rfl ?_
              refine JO.nil ?_
              repeat refine JX.normal_block ?_
              refine JX.roundS (i + 1) ?_ ?_ [0, 1, 2, 11, 12, 13, 14, 15] ?_ ?_ ?_
              · exact (by omega)
              · exact (by omega)
              · exact (.cons rfl (.cons rfl (.cons rfl (.cons rfl (.cons rfl (.cons rfl (.cons rfl (.cons rfl .nil))))))))
              · repeat (first | exact .slnil | exact List.Sublist.refl _ | apply List.Sublist.cons_cons | apply List.Sublist.cons)
              · repeat (first | exact .slnil | exact List.Sublist.refl _ | apply List.Sublist.cons_cons | apply List.Sublist.cons)
            ·
              try simp only [decide_eq_true_eq, decide_eq_false_iff_not] at ht102
              refine J.skip ?_
              repeat (first | refine JX.next ?_ | refine JX.normal_block ?_)
              have hn2 : bI (best (ltL dn) lnD S tk (i + 1)) = B := by
                rw [hB]
                refine best_no ?_
                rw [hSg i (by omega), hSg _ (by omega), ← hB]
                exact ht102
              rw [← hn2]
              repeat refine J.seq ?_
              refine J.plain ?_
              refine JO.t (ob_move rfl) rfl ?_
              refine JO.t (ob_addc (cc := ((i + 1 : Nat) : Int)) rfl rfl (by omega) (by omega) (by omega)) rfl ?_
              refine JO.t (ob_assign rfl) rfl ?_
              refine JO.nil ?_
              repeat refine JX.normal_block ?_
              refine JX.roundS (i + 1) ?_ ?_ [0, 1, 2, 11, 12, 13, 14, 15] ?_ ?_ ?_
              · exact (by omega)
              · exact (by omega)
              · exact (.cons rfl (.cons rfl (.cons rfl (.cons rfl (.cons rfl (.cons rfl (.cons rfl (.cons rfl .nil))))))))
              · repeat (first | exact .slnil | exact List.Sublist.refl _ | apply List.Sublist.cons_cons | apply List.Sublist.cons)
              · repeat (first | exact .slnil | exact List.Sublist.refl _ | apply List.Sublist.cons_cons | apply List.Sublist.cons)
          ·
            try simp only [decide_eq_true_eq, decide_eq_false_iff_not] at ht71
            repeat refine J.seq ?_
            refine J.exit ?_
            repeat (first | refine JX.hit ?_ | refine JX.miss rfl ?_ | refine JX.exit_pass ?_)
            repeat (first | refine JX.next ?_ | refine JX.normal_block ?_)
            have hi2 : i = rps.length := by omega
            subst hi2
            obtain ⟨j, hj, hjl, hsj, hrest2⟩ := pick_step (d := lnD) (ordL dn) hSv (htl.trans hSl.symm) (m := ps.length) (by omega) hrest
            rw [hSl] at hj hjl
            have hTj : T[ps.length]? = some ((rps.getD j rv0).row, (kps.getD j rv0).row) := by
              rw [hT, cut_get (by rw [← hT]; omega), hsj, hSg j hjl]
            rw [hj, show bI (some j) = (j : Int) from rfl]
            repeat refine J.seq ?_
            refine J.plain ?_
            refine JO.t (ob_move rfl) rfl ?_
            refine JO.t (ob_move rfl) rfl ?_
            refine JO.t (ob_indexAddr el_sl_bool rfl rfl rfl (by omega) (by omega)) rfl ?_
            refine JO.m (obm_storeF1 (cs := tk.map Value.bool) (cs' := (tk.set j true).map Value.bool) rfl rfl rfl rfl (by repeat (first | exact .here | apply Upd.there)) (by rw [show 0 + Int.toNat (j : Int) * 1 = j by omega]; exact splice_set Value.bool tk j true (by omega)) (Nat.ble_eq_true_of_le (by rw [List.length_map]; omega)) ss_bool) (by rfl) ?_
            refine JO.nil ?_
            repeat (first | refine JX.next ?_ | refine JX.normal_block ?_)
            refine J.sel [0, 1, 2, 11, 12, 13, 14] (.cons rfl (.cons rfl (.cons rfl (.cons rfl (.cons rfl (.cons rfl (.cons rfl .nil))))))) ?_
            repeat refine J.seq ?_
            refine J.plain ?_
            refine JO.t (ob_move rfl) rfl ?_
            refine JO.t (ob_move rfl) rfl ?_
            refine JO.t (ob_move rfl) rfl ?_
            refine JO.t (ob_indexAddr el_sl_sl_api_Value rfl (hra (by omega)) rfl (by omega) (by omega)) rfl ?_
            refine JO.t (ob_loadG1 (enc := RV.c) (sz := 1) (i := j) (j := 0) (y := rps.getD j rv0) (u := (rps.getD j rv0).v) sz_sl_api_Value rfl (by repeat (first | exact List.mem_cons_self | apply List.mem_cons_of_mem)) (hra (by omega)) (getD_some (by omega)) (by omega) rfl) rfl ?_
            refine JO.t (ob_buildSlice (cs := [_]) sl_sl_sl_api_Value (by omega) (by omega) (.cons rfl .nil) rfl rfl rfl) rfl ?_
            refine JO.apX ([rps.getD j rv0]) ap_sl_sl_api_Value RV.c_len (by repeat (first | exact .here | apply Cx.past | apply Cx.there)) hG rfl rfl (fun L => src_new un_sl_sl_api_Value rfl rfl) (by simp) (by simp; omega) (by simp; omega) rfl (fun st1 cp1 hG1 => ?_)
            try dsimp only
            refine JO.t (ob_assign rfl) rfl ?_
            refine JO.nil ?_
            repeat refine JX.normal_block ?_
            refine JX.roundG (x := (tk, ps, st, cap)) (tk.set j true, ps ++ [rps.getD j rv0], st1, cp1) ?_ ?_ [0, 1, 2, 11, 12, 13] ?_ ?_ ?_ ?_
            · exact ⟨by show (tk.set j true).length = _; rw [List.length_set]; exact htl, hG1, fun p hp => (List.mem_append.1 hp).elim (hpm p) (fun h => by rw [List.mem_singleton.1 h]; exact getD_mem (by omega)), by
    show (ps ++ [rps.getD j rv0]).map RV.row = (T.take (ps ++ [rps.getD j rv0]).length).map Prod.fst
    rw [List.map_append, List.length_append, List.length_singleton, List.take_add_one, List.map_append, ← hps, hTj]
    rfl, by show (ps ++ [rps.getD j rv0]).length ≤ _; rw [List.length_append, List.length_singleton]; omega, by
    show (rest S (tk.set j true)).Perm (List.drop (ps ++ [rps.getD j rv0]).length (srt (ltL dn) S))
    rw [List.length_append, List.length_singleton]; exact hrest2, fun h => absurd h (by simp)⟩
            · exact (by show T.length - (ps ++ [rps.getD j rv0]).length < T.length - ps.length; rw [List.length_append, List.length_singleton]; omega)
            · exact (.cons rfl (.cons rfl (.cons rfl (.cons rfl (.cons rfl (.cons rfl .nil))))))
            · repeat (first | exact .all | exact .nil | refine Has.own (by repeat (first | exact .here | apply Tl.past | apply Tl.there)) ?_ | refine Has.cons (by repeat (first | exact .here | apply Pk.past | apply Pk.there)) ?_)
            · exact fun G hG => by repeat (first | exact hG | refine List.mem_cons_of_mem _ ?_)
            · exact fun _ _ _ => fun _ _ => trivial
        ·
          try simp only [decide_eq_true_eq, decide_eq_false_iff_not] at ht67
          repeat refine J.seq ?_
          refine J.exit ?_
          repeat (first | refine JX.hit ?_ | refine JX.miss rfl ?_ | refine JX.exit_pass ?_)
          repeat (first | refine JX.next ?_ | refine JX.normal_block ?_)
          have hTe : T.take ps.length = T := List.take_of_length_le (by omega)
          rw [hTe] at hps
          refine J.freezeO RV.c_len hG (e := ty_sl_api_Value) (by repeat (first | exact .here | apply Tl.past | apply Tl.there)) (fun _ h => h) rfl rfl ?_
          repeat refine J.seq ?_
          refine J.plain ?_
          refine JO.t (ob_move rfl) rfl ?_
          refine JO.t (ob_assign rfl) rfl ?_
          refine JO.t (ob_assign rfl) rfl ?_
          refine JO.nil ?_
          repeat (first | refine JX.next ?_ | refine JX.normal_block ?_)
          refine J.sel [8, 9] (.cons rfl (.cons rfl .nil)) ?_
          repeat refine J.seq ?_
          refine J.ret ?_
          repeat (first | refine JX.ret_pass ?_ | refine JX.ret_block ?_)
          have hrows : ps.map RV.row = topRows limit dn ((rps.map RV.row).zip (kps.map RV.row)) := by
            rw [hps, hT, hS, lvs_ln]
            rfl
          exact JX.ret2sub rfl rfl rfl (by rw [topO_ok hg, ← hrows]; exact Sub.rowsON hG hzn (by repeat (first | exact List.mem_cons_self | apply List.mem_cons_of_mem)) (rps := rps) (by repeat (first | exact List.mem_cons_self | apply List.mem_cons_of_mem)) hpm rfl) rfl (Sub.isEq (by rw [topE_ok hg]))
end Go.Proofs.Ytgpikmonklainaa
